/- A part of a proof: what functions of the program compute, and plain facts on that. -/
import Derived.Test.YtbjbjboehjdcaaaGreatCutsFoldP1
import Derived.OpenShut
import Derived.ChangeArms
import Derived.ProofKit
import Derived.Deep.Slices
import Derived.KernelRfl
import Derived.Test.YtbjbjboehjdcaaaGreatProg
import Derived.WideKeyEntry
import Derived.Laws.CopyRow
import Derived.Lib.AppendZeros
import Derived.Lib.Overlaps
import Derived.Laws.Externs
import Derived.Laws.Cover3
set_option linter.unusedVariables false
set_option linter.unusedSimpArgs false
set_option maxHeartbeats 4000000
set_option maxRecDepth 100000
namespace Go.Vx
open Go.RowKit
def nth {α:Type} (z:α):List α->Nat->α
 | [],_=>z
 | a :: _,0=>a
 | _ :: l,i+1=>nth z l i
theorem QoL {α:Type} (z:α) (l:List α) (i:Nat):nth z l i=(l[i]?).getD z:=by
 induction l generalizing i with
 | nil=>simp [nth]
 | cons a l ih=>cases i<;>simp [nth,ih]
def restr (r:List Nat) (J:Env):Env:=fun t=>cond (r.any (Nat.beq t)) (J t) undef
abbrev Vals:=List (Bool × (Env->Value))
def QkF (rs:List (List Nat)) (vs:Vals) (J:Env) (j:Nat):Value:=cond (nth (true,fun _=>undef) vs j).1 ((nth (true,fun _=>undef) vs j).2 (restr (nth [] rs j) J)) undef
def Qpc (ks:List (Option Nat)) (t j:Nat):Bool:=match nth none ks j with|some d=>Nat.beq d t|none=>false
def ceR (ks:List (Option Nat)) (rs:List (List Nat)) (vs:Vals) (yes no:List Nat) (J0 J:Env):Env:=fun t =>
 match yes with
 | []=>cond (no.any (Qpc ks t)||!(ks.any fun k=>match k with|some d=>Nat.beq d t|none=>false)) (J0 t) (J t)
 | j :: js=>cond (Qpc ks t j) (QkF rs vs J j) (ceR ks rs vs js no J0 J t)
def cD (yes no:List Nat) (D:Nat->Bool):Nat->Bool:=fun j=>cond (yes.any (Nat.beq j)) true (cond (no.any (Nat.beq j)) false (D j))
def Qrv (ms:List Nat) (o:Oper) (i:Nat):Bool:=Nat.beq (nth 0 ms i) ((deps o).foldl (fun m k=>m ||| (1 <<< k) ||| nth 0 ms k) 0)
def ndk:List (Option Nat)->Bool
 | []=>true
 | none :: l=>ndk l
 | some d :: l=>!(l.any fun k=>match k with|some e=>Nat.beq e d|none=>false)&&ndk l
def Qjn (ks:List (Option Nat)) (m:Nat) (t:Nat):Nat->Bool
 | 0=>false
 | k+1=>(Qpc ks t k&&m.testBit k)||Qjn ks m t k
def QmW (n:Nat) (ks:List (Option Nat)) (ms:List Nat) (o:Oper) (i:Nat):Bool:=match o.guard with|none=>true|some (j,_)=>(nth 0 ms i).testBit j&&match nth none ks j with|some d=>Nat.blt d n|none=>false
def QlA (n:Nat) (ks:List (Option Nat)) (rs:List (List Nat)) (ms:List Nat) (o:Oper) (i:Nat):Bool:=Qrv ms o i&&QmW n ks ms o i&&(nth [] rs i).all fun t=>Qjn ks (nth 0 ms i ||| (1 <<< i)) t ks.length
def Qtx:Option Nat->Option Nat->Bool
 | none,none=>true
 | some a,some b=>Nat.beq a b
 | _,_=>false
def QfH (n:Nat) (ks:List (Option Nat)) (rs:List (List Nat)) (ms:List Nat):List Oper->List (Option Nat)->Nat->Bool
 | [],[],_=>true
 | o :: l,k :: m,i=>Qtx o.dst k&&QlA n ks rs ms o i&&QfH n ks rs ms l m (i+1)
 | _,_,_=>false
def Qqx (n:Nat) (ks:List (Option Nat)) (rs:List (List Nat)) (ms:List Nat) (l:List Oper):Bool:=rising l&&ndk ks&&QfH n ks rs ms l ks 0
def QlY (ms:List Nat) (i:Nat) (yes no:List Nat):Bool:=yes.all (fun j=>(nth 0 ms i).testBit j)&&no.all fun j=>(nth 0 ms j).testBit i
theorem Qp8 {a b:Option Nat} (h:Qtx a b=true):a=b:=by
 cases a<;>cases b<;>simp [Qtx] at h ⊢
 exact h
section
variable {n:Nat} {ks:List (Option Nat)} {rs:List (List Nat)} {ms:List Nat} {l:List Oper}
theorem QiI:∀ (m:List Oper) (k:List (Option Nat)) (i:Nat),QfH n ks rs ms m k i=true->∀ j o,m[j]?=some o->k[j]?=some o.dst/\QlA n ks rs ms o (i+j)=true
 | [],_,_,_,j,o,h=>by simp at h
 | a :: m,[],_,h,_,_,_=>by simp [QfH] at h
 | a :: m,b :: k,i,h,j,o,hj=>by
  simp only [QfH,Bool.and_eq_true] at h
  cases j with
  | zero =>
   simp at hj;subst hj
   have:=Qp8 h.1.1;subst this
   exact ⟨by simp,by simpa using h.1.2⟩
  | succ j =>
   have:=QiI m k (i+1) h.2 j o (by simpa using hj)
   exact ⟨by simpa using this.1,by rw [show i+(j+1)=i+1+j by omega];exact this.2⟩
theorem Qht:∀ (m:List Oper) (k:List (Option Nat)) (i:Nat),QfH n ks rs ms m k i=true->m.length=k.length
 | [],[],_,_=>rfl
 | [],_ :: _,_,h=>by simp [QfH] at h
 | _ :: _,[],_,h=>by simp [QfH] at h
 | a :: m,b :: k,i,h=>by
  simp only [QfH,Bool.and_eq_true] at h
  simp [Qht m k (i+1) h.2]
structure RegF (n:Nat) (ks:List (Option Nat)) (rs:List (List Nat)) (ms:List Nat) (l:List Oper):Prop where
 rise:rising l=true
 nd:ndk ks=true
 len:l.length=ks.length
 at_:∀ j o,l[j]?=some o->ks[j]?=some o.dst/\QlA n ks rs ms o j=true
theorem Qx6 (h:Qqx n ks rs ms l=true):RegF n ks rs ms l:=by
 simp only [Qqx,Bool.and_eq_true] at h
 refine ⟨h.1.1,h.1.2,Qht _ _ _ h.2,fun j o hj=>?_⟩
 have:=QiI l ks 0 h.2 j o hj
 rw [Nat.zero_add] at this
 exact this
theorem Qhi (m k a j:Nat) (h:(m ||| (1 <<< k) ||| a).testBit j=true):m.testBit j=true∨j=k∨a.testBit j=true:=by
 rw [Nat.testBit_or,Nat.testBit_or,Bool.or_eq_true,Bool.or_eq_true] at h
 rcases h with (h|h)|h
 ·exact .inl h
 ·right;left
  rw [Nat.shiftLeft_eq,Nat.one_mul,Nat.testBit_two_pow] at h
  exact (QQ1 h).symm
 ·exact .inr (.inr h)
theorem Qjo (ms:List Nat) (j:Nat):∀ (d:List Nat) (m:Nat),(d.foldl (fun m k=>m ||| (1 <<< k) ||| nth 0 ms k) m).testBit j=true->m.testBit j=true∨∃ k∈d,j=k∨(nth 0 ms k).testBit j=true
 | [],m,h=>.inl h
 | k :: d,m,h=>by
  rcases Qjo ms j d _ h with h|⟨x,hx,h⟩
  ·rcases Qhi _ _ _ _ h with h|h|h
   ·exact .inl h
   ·exact .inr ⟨k,by simp,.inl h⟩
   ·exact .inr ⟨k,by simp,.inr h⟩
  ·exact .inr ⟨x,by simp [hx],h⟩
theorem RegF.done (H:RegF n ks rs ms l) {D:Nat->Bool} (hdc:∀ j o',l[j]?=some o'->D j=true->∀ k∈deps o',D k=true):∀ (i:Nat) (o:Oper),l[i]?=some o->(∀ k∈deps o,D k=true)->∀ j,(nth 0 ms i).testBit j=true->D j=true:=by
 intro i
 induction i using Nat.strongRecOn with
 | _ i ih =>
  intro o ho hd j hj
  have hc:=(H.at_ i o ho).2
  simp only [QlA,Bool.and_eq_true,Qrv] at hc
  rw [Nat.eq_of_beq_eq_true hc.1.1] at hj
  rcases Qjo ms j _ _ hj with h|⟨k,hk,h⟩
  ·simp at h
  ·rcases h with h|h
   ·subst h;exact hd j hk
   ·have hki:=QgR H.rise ho hk
    have hkl:k<l.length:=Nat.lt_trans hki (QaZ ho)
    exact ih k hki l[k] (List.getElem?_eq_getElem hkl) (hdc k l[k] (List.getElem?_eq_getElem hkl) (hd k hk)) j h
theorem RegF.before (H:RegF n ks rs ms l) {D:Nat->Bool} (hdc:∀ j o',l[j]?=some o'->D j=true->∀ k∈deps o',D k=true) {i j:Nat} (hi:D i=false) (hj:(nth 0 ms j).testBit i=true) (hjl:j<l.length):D j=false:=by
 cases h:D j with
 | false=>rfl
 | true =>
  have:=H.done hdc j l[j] (List.getElem?_eq_getElem hjl) (hdc j l[j] (List.getElem?_eq_getElem hjl) h) i hj
  rw [hi] at this;cases this
theorem Qk7:∀ {k:List (Option Nat)},ndk k=true->∀ (i j d:Nat),k[i]?=some (some d)->k[j]?=some (some d)->i=j
 | [],_,i,_,_,h,_=>by simp at h
 | none :: k,h,i,j,d,hi,hj=>by
  cases i with
  | zero=>simp at hi
  | succ i=>cases j with
   | zero=>simp at hj
   | succ j=>rw [Qk7 (k:=k) h i j d (by simpa using hi) (by simpa using hj)]
 | some e :: k,h,i,j,d,hi,hj=>by
  simp only [ndk,Bool.and_eq_true,Bool.not_eq_true',List.any_eq_false] at h
  have no:∀ m,k[m]?=some (some e)->False:=fun m hm=>by
   have:=h.1 (some e) (List.mem_of_getElem? hm)
   simp at this
  cases i with
  | zero =>
   simp at hi;subst hi
   cases j with
   | zero=>rfl
   | succ j=>exact (no j (by simpa using hj)).elim
  | succ i=>cases j with
   | zero=>simp at hj;subst hj;exact (no i (by simpa using hi)).elim
   | succ j=>rw [Qk7 (k:=k) h.2 i j d (by simpa using hi) (by simpa using hj)]
theorem Qis {t j:Nat}:Qpc ks t j=true↔ks[j]?=some (some t):=by
 unfold Qpc
 rw [QoL]
 cases h:ks[j]? with
 | none=>simp
 | some k=>cases k<;>simp
theorem Qhz {m t:Nat}:∀ {n:Nat},Qjn ks m t n=true->∃ k,k<n/\ks[k]?=some (some t)/\m.testBit k=true
 | 0,h=>by simp [Qjn] at h
 | n+1,h=>by
  simp only [Qjn,Bool.or_eq_true,Bool.and_eq_true] at h
  rcases h with h|h
  ·exact ⟨n,by omega,Qis.1 h.1,h.2⟩
  ·obtain ⟨k,h1,h2,h3⟩:=Qhz h;exact ⟨k,by omega,h2,h3⟩
def KnR (ks:List (Option Nat)) (rs:List (List Nat)) (vs:Vals) (J0:Env) (D:Nat->Bool) (J:Env):Prop :=
 ∀ j d,ks[j]?=some (some d)->(D j=true->J d=QkF rs vs J j)/\(D j=false->J d=J0 d)
theorem RegF.ds (H:RegF n ks rs ms l) {t:Nat}:(t∈dsts l)↔∃ j:Nat,ks[j]?=some (some t):=by
 unfold dsts
 rw [List.mem_filterMap]
 constructor
 ·rintro ⟨o,ho,hd⟩
  obtain ⟨j,hj⟩:=List.mem_iff_getElem?.1 ho
  exact ⟨j,by rw [(H.at_ j o hj).1,hd]⟩
 ·rintro ⟨j,hj⟩
  have hjl:j<l.length:=by rw [H.len];exact QaZ hj
  have h1:=List.getElem?_eq_getElem hjl
  refine ⟨l[j],List.getElem_mem hjl,?_⟩
  have:=(H.at_ j _ h1).1
  rw [hj] at this;simpa using this.symm
theorem RegF.ref (H:RegF n ks rs ms l) {j t:Nat} (hj:j<l.length) (ht:t∈nth [] rs j):∃ k:Nat,ks[k]?=some (some t)/\(k=j∨(nth 0 ms j).testBit k=true):=by
 have hc:=(H.at_ j l[j] (List.getElem?_eq_getElem hj)).2
 simp only [QlA,Bool.and_eq_true,List.all_eq_true] at hc
 obtain ⟨k,_,h2,h3⟩:=Qhz (hc.2 t ht)
 refine ⟨k,h2,?_⟩
 rw [Nat.testBit_or,Bool.or_eq_true,Nat.shiftLeft_eq,Nat.one_mul,Nat.testBit_two_pow] at h3
 rcases h3 with h3|h3
 ·exact .inr h3
 ·exact .inl (QQ1 h3).symm
theorem Qkc {r:List Nat} {J J':Env} (h:∀ t∈r,J t=J' t):restr r J=restr r J':=by
 funext t
 unfold restr
 cases hb:r.any (Nat.beq t) with
 | false=>rfl
 | true =>
  rw [List.any_eq_true] at hb
  obtain ⟨x,hx,he⟩:=hb
  rw [Nat.eq_of_beq_eq_true he]
  exact h x hx
theorem RegF.step (H:RegF n ks rs ms l) {vs:Vals} {J0 J:Env} {D:Nat->Bool} (hdc:∀ j o',l[j]?=some o'->D j=true->∀ k∈deps o',D k=true) {i:Nat} {o:Oper} (ho:l[i]?=some o) (hd:∀ k∈deps o,D k=true) (hD:D i=false) (hK:KnR ks rs vs J0 D J) {v:Value}
  (hv:∀ d,o.dst=some d->v=QkF rs vs (QeQ J o.dst v) i):KnR ks rs vs J0 (mark D i) (QeQ J o.dst v):=by
 intro j e hj
 have hki:=(H.at_ i o ho).1
 have hjl:j<l.length:=by rw [H.len];exact QaZ hj
 by_cases hij:j=i
 ·subst hij
  rw [hj] at hki
  have hde:o.dst=some e:=by simpa using hki.symm
  refine ⟨fun _=>?_,fun h=>?_⟩
  ·rw [← hv e hde,hde]
   show upd J e v e=v
   rw [Qf9,if_pos rfl]
  ·unfold mark at h;simp at h
 ·have hne:∀ t,o.dst=some t->e≠t:=fun t ht he=>by
   subst he
   rw [ht] at hki
   exact hij (Qk7 H.nd j i e hj hki)
  have e1:QeQ J o.dst v e=J e:=by
   cases hdd:o.dst with
   | none=>rfl
   | some t =>
    show upd J t v e=J e
    rw [Qf9,if_neg (hne t hdd)]
  have hm:mark D i j=D j:=by unfold mark;rw [QeW];simp [hij]
  rw [hm,e1]
  refine ⟨fun h=>?_,(hK j e hj).2⟩
  rw [(hK j e hj).1 h]
  unfold QkF
  rw [show restr (nth [] rs j) J=restr (nth [] rs j) (QeQ J o.dst v) from Qkc fun t ht=>?_]
  obtain ⟨k,h1,h2⟩:=H.ref hjl ht
  have hk:D k=true:=by
   rcases h2 with h2|h2
   ·subst h2;exact h
   ·exact H.done hdc j l[j] (List.getElem?_eq_getElem hjl) (hdc j l[j] (List.getElem?_eq_getElem hjl) h) k h2
  cases hdd:o.dst with
  | none=>rfl
  | some x =>
   show J t=upd J x v t
   rw [Qf9,if_neg]
   intro he
   subst he
   rw [hdd] at hki
   have:=Qk7 H.nd k i t h1 hki
   subst this
   rw [hD] at hk;cases hk
theorem RegF.ce (H:RegF n ks rs ms l) {vs:Vals} {J0 J:Env} {D:Nat->Bool} (hK:KnR ks rs vs J0 D J) (hf:∀ t,t ∉ dsts l->J t=J0 t) {no:List Nat} (hno:∀ j∈no,D j=false):∀ {yes:List Nat},(∀ j∈yes,D j=true)->ceR ks rs vs yes no J0 J=J
 | [],_=>by
  funext t
  unfold ceR
  cases hb:(no.any (Qpc ks t)||!(ks.any fun k=>match k with|some d=>Nat.beq d t|none=>false)) with
  | false=>rfl
  | true =>
   rw [Bool.or_eq_true] at hb
   rcases hb with hb|hb
   ·rw [List.any_eq_true] at hb
    obtain ⟨j,hj,h⟩:=hb
    exact ((hK j t (Qis.1 h)).2 (hno j hj)).symm
   ·refine (hf t fun hm=>?_).symm
    obtain ⟨j,hj⟩:=H.ds.1 hm
    rw [Bool.not_eq_true',List.any_eq_false] at hb
    have:=hb (some t) (List.mem_of_getElem? hj)
    simp at this
 | j :: js,hy=>by
  funext t
  rw [ceR]
  have ih:=H.ce (yes:=js) hK hf hno (fun k hk=>hy k (by simp [hk]))
  cases hb:Qpc ks t j with
  | false=>rw [cond_false,ih]
  | true=>rw [cond_true,(hK j t (Qis.1 hb)).1 (hy j (by simp))]
theorem QwV {D:Nat->Bool} {yes no:List Nat} (hy:∀ j∈yes,D j=true) (hn:∀ j∈no,D j=false):cD yes no D=D:=by
 funext j
 unfold cD
 cases hb:yes.any (Nat.beq j) with
 | true =>
  rw [List.any_eq_true] at hb
  obtain ⟨x,hx,he⟩:=hb
  rw [Nat.eq_of_beq_eq_true he];exact (hy x hx).symm
 | false =>
  rw [cond_false]
  cases hc:no.any (Nat.beq j) with
  | true =>
   rw [List.any_eq_true] at hc
   obtain ⟨x,hx,he⟩:=hc
   rw [Nat.eq_of_beq_eq_true he];exact (hn x hx).symm
  | false=>rfl
end
section
variable {κ:Cx} {P:Program} {n:Nat} {N R:St} {X:Nat->St} {J:Env} {w:World}
def vOk (rs:List (List Nat)) (vs:Vals) (i:Nat) (J:Env) (v:Value):Option Nat->Prop
 | none=>True
 | some d=>v=(nth (true,fun _=>undef) vs i).2 (restr (nth [] rs i) (upd J d v))
def ceG (ks:List (Option Nat)) (rs:List (List Nat)) (vs:Vals) (J:Env) (env:Env):List Nat->Env
 | []=>env
 | j :: js=>fun t=>cond (Qpc ks t j) ((nth (true,fun _=>undef) vs j).2 (restr (nth [] rs j) J)) (ceG ks rs vs J env js t)
def QwF (vs:Vals):List Nat->Prop
 | []=>True
 | j :: js=>(nth (true,fun _=>undef) vs j).1=true/\QwF vs js
abbrev LfT:=(Nat->Bool)->Env->List Res
def Ob (P:Program) (n:Nat) (w0:World) (M:Nat->Prop) (J0:Env) (ks:List (Option Nat)) (rs:List (List Nat)) (ms:List Nat) (vs:Vals) (Lf:LfT) (i:Nat) (o:Oper):Prop :=
 ∃ yes no:List Nat,QlY ms i yes no=true /\
  match o.guard with
  | none=>(nth (true,fun _=>undef) vs i).1=true/\∀ D J w,Own w0 M w (Lf (cD yes (i :: no) D) J) ->
    opW P o.op o.type (ev n (ceR ks rs vs yes (i :: no) J0 J)) w fun v w'=>vOk rs vs i J v o.dst/\Own w0 M w' (Lf (mark (cD yes (i :: no) D) i) (QeQ J o.dst v))
  | some (j,want)=>∃ (T:Bool) (gy:List Nat),QlY ms i gy []=true/\(∀ J,(nth (true,fun _=>undef) vs j).2 J = .bool T)/\(nth (true,fun _=>undef) vs i).1=((nth (true,fun _=>undef) vs j).1&&(T == want)) /\
    (∀ D J w,(nth (true,fun _=>undef) vs i).1=false->Own w0 M w (Lf (cD yes (i :: no) D) J)->Own w0 M w (Lf (mark (cD yes (i :: no) D) i) (QeQ J o.dst undef))) /\
    ((nth (true,fun _=>undef) vs i).1=true->QwF vs gy) /\
    ∀ D J w,(nth (true,fun _=>undef) vs i).1=true->Own w0 M w (Lf (cD yes (i :: no) D) J) ->
     opW P o.op o.type (ev n (ceG ks rs vs J (ceR ks rs vs yes (i :: no) J0 J) gy)) w fun v w'=>vOk rs vs i J v o.dst/\Own w0 M w' (Lf (mark (cD yes (i :: no) D) i) (QeQ J o.dst v))
def Obs (P:Program) (n:Nat) (w0:World) (M:Nat->Prop) (J0:Env) (ks:List (Option Nat)) (rs:List (List Nat)) (ms:List Nat) (vs:Vals) (Lf:LfT):Nat->List Oper->Prop
 | _,[]=>True
 | i,o :: l=>Ob P n w0 M J0 ks rs ms vs Lf i o/\Obs P n w0 M J0 ks rs ms vs Lf (i+1) l
variable {w0:World} {M:Nat->Prop} {J0:Env} {ks:List (Option Nat)} {rs:List (List Nat)} {ms:List Nat} {vs:Vals} {Lf:LfT}
theorem Qm6:∀ (m:List Oper) (k:Nat),Obs P n w0 M J0 ks rs ms vs Lf k m->∀ j o,m[j]?=some o->Ob P n w0 M J0 ks rs ms vs Lf (k+j) o
 | [],_,_,_,_,h=>by simp at h
 | o :: m,k,h,j,o',hj=>by
  cases j with
  | zero=>simp at hj;subst hj;exact h.1
  | succ j =>
   have:=Qm6 m (k+1) h.2 j o' (by simpa using hj)
   rw [show k+(j+1)=k+1+j by omega]
   exact this
theorem ob {i:Nat} {dst:Option Tmp} {op:Op} {ty:TypeId} {pos:String} {after:Array Edge} (yes no:List Nat) (hyn:QlY ms i yes no=true) (hg:(nth (true,fun _=>undef) vs i).1=true)
  (h:∀ D J w,Own w0 M w (Lf (cD yes (i :: no) D) J)->opW P op ty (ev n (ceR ks rs vs yes (i :: no) J0 J)) w fun v w'=>vOk rs vs i J v dst/\Own w0 M w' (Lf (mark (cD yes (i :: no) D) i) (QeQ J dst v))) :
  Ob P n w0 M J0 ks rs ms vs Lf i { dst,op,type:=ty,pos,after,guard:=none }:=⟨yes,no,hyn,hg,h⟩
theorem obgy {i:Nat} {dst:Option Tmp} {op:Op} {ty:TypeId} {pos:String} {after:Array Edge} {j:Nat} {want:Bool} (yes no gy:List Nat) (T:Bool) (hyn:(QlY ms i yes no&&QlY ms i gy [])=true) (hT:∀ J,(nth (true,fun _=>undef) vs j).2 J = .bool T)
  (hg:(nth (true,fun _=>undef) vs i).1=((nth (true,fun _=>undef) vs j).1&&(T == want)))
  (hn:∀ D J w,(nth (true,fun _=>undef) vs i).1=false->Own w0 M w (Lf (cD yes (i :: no) D) J)->Own w0 M w (Lf (mark (cD yes (i :: no) D) i) (QeQ J dst undef)))
  (hgy:(nth (true,fun _=>undef) vs i).1=true->QwF vs gy)
  (h:∀ D J w,(nth (true,fun _=>undef) vs i).1=true->Own w0 M w (Lf (cD yes (i :: no) D) J)->opW P op ty (ev n (ceG ks rs vs J (ceR ks rs vs yes (i :: no) J0 J) gy)) w fun v w'=>vOk rs vs i J v dst/\Own w0 M w' (Lf (mark (cD yes (i :: no) D) i) (QeQ J dst v))) :
  Ob P n w0 M J0 ks rs ms vs Lf i { dst,op,type:=ty,pos,after,guard:=some (j,want) }:=by
 rw [Bool.and_eq_true] at hyn
 exact ⟨yes,no,hyn.1,T,gy,hyn.2,hT,hg,hn,hgy,h⟩
theorem obg {i:Nat} {dst:Option Tmp} {op:Op} {ty:TypeId} {pos:String} {after:Array Edge} {j:Nat} {want:Bool} (yes no:List Nat) (T:Bool) (hyn:QlY ms i yes no=true) (hT:∀ J,(nth (true,fun _=>undef) vs j).2 J = .bool T)
  (hg:(nth (true,fun _=>undef) vs i).1=((nth (true,fun _=>undef) vs j).1&&(T == want)))
  (hn:∀ D J w,(nth (true,fun _=>undef) vs i).1=false->Own w0 M w (Lf (cD yes (i :: no) D) J)->Own w0 M w (Lf (mark (cD yes (i :: no) D) i) (QeQ J dst undef)))
  (h:∀ D J w,(nth (true,fun _=>undef) vs i).1=true->Own w0 M w (Lf (cD yes (i :: no) D) J)->opW P op ty (ev n (ceR ks rs vs yes (i :: no) J0 J)) w fun v w'=>vOk rs vs i J v dst/\Own w0 M w' (Lf (mark (cD yes (i :: no) D) i) (QeQ J dst v))) :
  Ob P n w0 M J0 ks rs ms vs Lf i { dst,op,type:=ty,pos,after,guard:=some (j,want) }:=⟨yes,no,hyn,T,[],rfl,hT,hg,hn,fun _=>trivial,h⟩
theorem oa {i:Nat} {dst:Option Tmp} {op:Op} {ty:TypeId} {pos:String} {after:Array Edge} (yes:List Nat)
  (h:∀ D J w,Own w0 M w (Lf (cD yes [i] D) J)->opW P op ty (ev n (ceR ks rs vs yes [i] J0 J)) w fun v w'=>vOk rs vs i J v dst/\Own w0 M w' (Lf (mark (cD yes [i] D) i) (QeQ J dst v)))
  (hyn:QlY ms i yes []=true:=by rfl) (hg:(nth (true,fun _=>undef) vs i).1=true:=by rfl) :
  Ob P n w0 M J0 ks rs ms vs Lf i { dst,op,type:=ty,pos,after,guard:=none }:=⟨yes,[],hyn,hg,h⟩
theorem oi {i:Nat} {dst:Option Tmp} {op:Op} {ty:TypeId} {pos:String} {after:Array Edge} (yes:List Nat)
  (h:∀ {D J w},Own w0 M w (Lf (cD yes [i] D) J)->opW P op ty (ev n (ceR ks rs vs yes [i] J0 J)) w fun v w'=>vOk rs vs i J v dst/\Own w0 M w' (Lf (mark (cD yes [i] D) i) (QeQ J dst v)))
  (hyn:QlY ms i yes []=true:=by rfl) (hg:(nth (true,fun _=>undef) vs i).1=true:=by rfl) :
  Ob P n w0 M J0 ks rs ms vs Lf i { dst,op,type:=ty,pos,after,guard:=none }:=⟨yes,[],hyn,hg,fun _ _ _=>h⟩
theorem ogi {i:Nat} {dst:Option Tmp} {op:Op} {ty:TypeId} {pos:String} {after:Array Edge} {j:Nat} {want:Bool} {T:Bool} (yes:List Nat)
  (h:∀ {D J w},(nth (true,fun _=>undef) vs i).1=true->Own w0 M w (Lf (cD yes [i] D) J)->opW P op ty (ev n (ceR ks rs vs yes [i] J0 J)) w fun v w'=>vOk rs vs i J v dst/\Own w0 M w' (Lf (mark (cD yes [i] D) i) (QeQ J dst v)))
  (hT:∀ J,(nth (true,fun _=>undef) vs j).2 J = .bool T:=by intro _;rfl) (hyn:QlY ms i yes []=true:=by rfl)
  (hg:(nth (true,fun _=>undef) vs i).1=((nth (true,fun _=>undef) vs j).1&&(T == want)):=by rfl)
  (hn:∀ D J w,(nth (true,fun _=>undef) vs i).1=false->Own w0 M w (Lf (cD yes [i] D) J)->Own w0 M w (Lf (mark (cD yes [i] D) i) (QeQ J dst undef)):=by intro _ _ _ _ h;exact h) :
  Ob P n w0 M J0 ks rs ms vs Lf i { dst,op,type:=ty,pos,after,guard:=some (j,want) }:=obg yes [] T hyn hT hg hn fun _ _ _=>h
theorem oyi {i:Nat} {dst:Option Tmp} {op:Op} {ty:TypeId} {pos:String} {after:Array Edge} {j:Nat} {want:Bool} {T:Bool} (yes gy:List Nat)
  (h:∀ {D J w},(nth (true,fun _=>undef) vs i).1=true->Own w0 M w (Lf (cD yes [i] D) J)->opW P op ty (ev n (ceG ks rs vs J (ceR ks rs vs yes [i] J0 J) gy)) w fun v w'=>vOk rs vs i J v dst/\Own w0 M w' (Lf (mark (cD yes [i] D) i) (QeQ J dst v)))
  (hT:∀ J,(nth (true,fun _=>undef) vs j).2 J = .bool T:=by intro _;rfl) (hyn:(QlY ms i yes []&&QlY ms i gy [])=true:=by rfl)
  (hg:(nth (true,fun _=>undef) vs i).1=((nth (true,fun _=>undef) vs j).1&&(T == want)):=by rfl)
  (hn:∀ D J w,(nth (true,fun _=>undef) vs i).1=false->Own w0 M w (Lf (cD yes [i] D) J)->Own w0 M w (Lf (mark (cD yes [i] D) i) (QeQ J dst undef)):=by intro _ _ _ _ h;exact h)
  (hgy:(nth (true,fun _=>undef) vs i).1=true->QwF vs gy:=by intro hG;first|exact ⟨hG,trivial⟩|exact ⟨hG,hG,trivial⟩|exact ⟨hG,hG,hG,trivial⟩|exact ⟨hG,hG,hG,hG,trivial⟩) :
  Ob P n w0 M J0 ks rs ms vs Lf i { dst,op,type:=ty,pos,after,guard:=some (j,want) }:=obgy yes [] gy T hyn hT hg hn hgy fun _ _ _=>h
def so (a n:Nat):List (Option Nat):=(List.range' a n).map some
theorem Ow {w0 w:World} {M:Nat->Prop} (L:List Res) (h:Own w0 M w L):Own w0 M w L:=h
theorem Zr {w0 w:World} {M:Nat->Prop} {L:List Res} {v V:Value} (hs:Own w0 M w L) (h:v=V):Ending.returned v = .returned V/\Own w0 M w []:=⟨congrArg _ h,hs.take 0⟩
theorem Zz {p q:Prop} (h:p) (e:q:=by exact rfl):q/\p:=⟨e,h⟩
theorem RegF.ceg {l:List Oper} (H:RegF n ks rs ms l) {J:Env} {D:Nat->Bool} (hK:KnR ks rs vs J0 D J):∀ {gy:List Nat},(∀ j∈gy,D j=true)->QwF vs gy->ceG ks rs vs J J gy=J
 | [],_,_=>rfl
 | j :: js,hy,hg=>by
  funext t
  show cond (Qpc ks t j) ((nth (true,fun _=>undef) vs j).2 (restr (nth [] rs j) J)) (ceG ks rs vs J J js t)=J t
  cases hb:Qpc ks t j with
  | false=>rw [cond_false,H.ceg hK (fun k hk=>hy k (by simp [hk])) hg.2]
  | true =>
   rw [cond_true,(hK j t (Qis.1 hb)).1 (hy j (by simp))]
   unfold QkF
   rw [hg.1,cond_true]
def Qpb (w0:World) (M:Nat->Prop) (J0:Env) (ks:List (Option Nat)) (rs:List (List Nat)) (vs:Vals) (Lf:LfT) (len:Nat) (D:Nat->Bool):St:=fun J w=>KnR ks rs vs J0 (upto len D) J/\Own w0 M w (Lf (upto len D) J)
theorem Qr0 {i:Nat} {yes no:List Nat} (h:QlY ms i yes no=true):(∀ j∈yes,(nth 0 ms i).testBit j=true)/\∀ j∈no,(nth 0 ms j).testBit i=true:=by
 simp only [QlY,Bool.and_eq_true,List.all_eq_true] at h
 exact h
theorem Qjh {l:List Oper} (H:RegF n ks rs ms l) {i:Nat} {o:Oper} (ho:l[i]?=some o) (h:Ob P n w0 M J0 ks rs ms vs Lf i o):Qg5 P n l J0 (Qpb w0 M J0 ks rs vs Lf l.length) i o:=by
 intro D0 J w hD0 hd0 hdc0 hf hI
 have hil:=QaZ ho
 obtain ⟨hK,hO⟩:=hI
 have hup:∀ j,j<l.length->upto l.length D0 j=D0 j:=fun j hj=>by unfold upto;rw [Qcu];simp [hj]
 have hD:upto l.length D0 i=false:=by rw [hup i hil];exact hD0
 have hd:∀ k∈deps o,upto l.length D0 k=true:=fun k hk=>by rw [hup k (Nat.lt_trans (QgR H.rise ho hk) hil)];exact hd0 k hk
 have hdc:∀ j o',l[j]?=some o'->upto l.length D0 j=true->∀ k∈deps o',upto l.length D0 k=true:=fun j o' hj hDj k hk=>by
  have hjl:=QaZ hj
  rw [hup j hjl] at hDj
  rw [hup k (Nat.lt_trans (QgR H.rise hj hk) hjl)]
  exact hdc0 j o' hj hDj k hk
 have hmk:upto l.length (mark D0 i)=mark (upto l.length D0) i:=Qof _ _ _ hil
 obtain ⟨yes,no,hyn,h⟩:=h
 obtain ⟨hy,hn⟩:=Qr0 hyn
 have hy':∀ j∈yes,upto l.length D0 j=true:=fun j hj=>H.done hdc i o ho hd j (hy j hj)
 have hn':∀ j∈i :: no,upto l.length D0 j=false:=fun j hj=>by
  rcases List.mem_cons.1 hj with e|e
  ·subst e;exact hD
  ·by_cases hjl:j<l.length
   ·exact H.before hdc hD (hn j e) hjl
   ·unfold upto;rw [Qcu];simp [hjl]
 have ce:ceR ks rs vs yes (i :: no) J0 J=J:=H.ce hK hf hn' hy'
 have cd:cD yes (i :: no) (upto l.length D0)=upto l.length D0:=QwV hy' hn'
 have hki:=(H.at_ i o ho).1
 have fin:∀ v w',(∀ d,o.dst=some d->v=QkF rs vs (QeQ J o.dst v) i)->Own w0 M w' (Lf (mark (upto l.length D0) i) (QeQ J o.dst v))->Qpb w0 M J0 ks rs vs Lf l.length (mark D0 i) (QeQ J o.dst v) w':=fun v w' hv hO=>by
  refine ⟨?_,?_⟩
  ·rw [hmk];exact H.step hdc ho hd hD hK hv
  ·rw [hmk];exact hO
 cases hg:o.guard with
 | none =>
  rw [hg] at h
  obtain ⟨h1,h2⟩:=h
  left
  refine ⟨by unfold Region.wanted;rw [hg],?_⟩
  have:=h2 (upto l.length D0) J w (by rw [cd];exact hO)
  rw [ce,cd] at this
  refine QeD this fun v w' ⟨hv,hO'⟩=>fin v w' (fun d hd=>?_) hO'
  unfold QkF
  rw [h1,cond_true]
  rw [hd] at hv ⊢
  exact hv
 | some gw =>
  obtain ⟨j,want⟩:=gw
  rw [hg] at h
  obtain ⟨T,gy,hgyn,hT,hgi,hno,hgyk,hyes⟩:=h
  have hc:=(H.at_ i o ho).2
  simp only [QlA,Bool.and_eq_true,QmW,hg] at hc
  have hDj:=H.done hdc i o ho hd j hc.1.2.1
  have hjl:j<l.length:=by
   rcases Nat.lt_or_ge j l.length with q|q
   ·exact q
   ·unfold upto at hDj;rw [Qcu] at hDj;simp at hDj;omega
  have hlj:=List.getElem?_eq_getElem hjl
  have hkj:=(H.at_ j _ hlj).1
  have hvj:QkF rs vs J j=cond (nth (true,fun _=>undef) vs j).1 (.bool T) undef:=by
   unfold QkF;rw [hT]
  have hwd:(match nth none ks j with|some d=>Nat.blt d n|none=>false)=true:=hc.1.2.2
  have hgv:gv n J l j=QkF rs vs J j:=by
   rw [QoL,hkj,Option.getD_some] at hwd
   cases hdj:l[j].dst with
   | none=>rw [hdj] at hwd;cases hwd
   | some dj =>
    rw [hdj] at hwd
    have hwd':Nat.blt dj n=true:=hwd
    have:gv n J l j=cond (Nat.blt dj n) (J dj) undef:=by unfold gv;rw [hlj];dsimp only;rw [hdj]
    rw [this,hwd',cond_true]
    rw [hdj] at hkj
    exact (hK j dj hkj).1 hDj
  have hw:∀ b,(nth (true,fun _=>undef) vs i).1=b->Region.wanted o (yielded l.toArray (frd n [] J).tmps)=b:=fun b hb=>by
   rw [← hb,hgi]
   exact QvN hg (by rw [hgv,hvj])
  cases hb:(nth (true,fun _=>undef) vs i).1 with
  | true =>
   left
   refine ⟨hw true hb,?_⟩
   have eg:ceG ks rs vs J J gy=J:=H.ceg hK (fun k hk=>H.done hdc i o ho hd k ((Qr0 hgyn).1 k hk)) (hgyk hb)
   have:=hyes (upto l.length D0) J w hb (by rw [cd];exact hO)
   rw [ce,cd,eg] at this
   refine QeD this fun v w' ⟨hv,hO'⟩=>fin v w' (fun d hd=>?_) hO'
   unfold QkF
   rw [hb,cond_true]
   rw [hd] at hv ⊢
   exact hv
  | false =>
   right
   refine ⟨hw false hb,?_⟩
   have:=hno (upto l.length D0) J w hb (by rw [cd];exact hO)
   rw [cd] at this
   refine fin undef w (fun d hd=>?_) this
   unfold QkF
   rw [hb,cond_false]
def Qsm (ks:List (Option Nat)) (rs:List (List Nat)) (vs:Vals) (J1 J0:Env):List Nat->Env
 | []=>mix (ks.filterMap id) J1 J0
 | j :: js=>match nth none ks j with
  | some d=>upd (Qsm ks rs vs J1 J0 js) d (QkF rs vs J1 j)
  | none=>Qsm ks rs vs J1 J0 js
theorem QrJ {l:List Oper} (H:RegF n ks rs ms l) {J1:Env} (hf:∀ t,t ∉ dsts l->J1 t=J0 t) (hK:∀ j d,ks[j]?=some (some d)->J1 d=QkF rs vs J1 j):∀ live,J1=Qsm ks rs vs J1 J0 live
 | []=>by
  refine Qao fun t ht=>hf t fun hm=>?_
  obtain ⟨j,hj⟩:=H.ds.1 hm
  exact ht (List.mem_filterMap.2 ⟨some t,List.mem_of_getElem? hj,rfl⟩)
 | j :: js=>by
  have ih:=QrJ H hf hK js
  unfold Qsm
  have hh:nth none ks j=(ks[j]?).getD none:=QoL _ _ _
  cases hk:ks[j]? with
  | none=>rw [hk] at hh;simp only [Option.getD_none] at hh;rw [hh];exact ih
  | some o =>
   rw [hk] at hh
   cases o with
   | none=>simp only [Option.getD_some] at hh;rw [hh];exact ih
   | some d=>simp only [Option.getD_some] at hh;rw [hh];exact Qai ih (hK j d hk)
theorem QoW {len:Nat}:∀ (D D':Nat->Bool) (J:Env) (w:World),(∀ j,j<len->D j=D' j)->Qpb w0 M J0 ks rs vs Lf len D J w->Qpb w0 M J0 ks rs vs Lf len D' J w:=by
 intro D D' J w h hI
 have:upto len D=upto len D':=by
  funext j
  unfold upto
  rw [Qcu]
  by_cases hj:j<len
  ·simp [hj,h j hj]
  ·simp [hj]
 unfold Qpb at *
 rw [← this];exact hI
theorem Qnd {l:List Oper} (H:RegF n ks rs ms l) {J1:Env} {w1:World} (hf:∀ t,t ∉ dsts l->J1 t=J0 t) (h:Qpb w0 M J0 ks rs vs Lf l.length (fun _=>true) J1 w1) (live:List Nat) :
  J1=Qsm ks rs vs J1 J0 live/\Own w0 M w1 (Lf (upto ks.length fun _=>true) J1):=by
 refine ⟨QrJ H hf (fun j d hj=>(h.1 j d hj).1 ?_) live,by rw [← H.len];exact h.2⟩
 have hjl:j<l.length:=by rw [H.len];exact QaZ hj
 unfold upto;rw [Qcu];simp [hjl]
theorem Qjv {l:List Oper} {w1:World} (h0:Own w0 M w1 (Lf (fun _=>false) J0)):Qpb w0 M J0 ks rs vs Lf l.length (fun _=>false) J0 w1:=by
 unfold Qpb
 rw [QlQ]
 exact ⟨fun j d _=>⟨fun h=>by simp at h,fun _=>rfl⟩,h0⟩
theorem QaH {id:Nat} {l:List Oper} (hm:P.follows .mixedOrders=true) (ks:List (Option Nat)) (rs:List (List Nat)) (ms:List Nat) (vs:Vals) (Lf:LfT) (live:List Nat) (hchk:Qqx n ks rs ms l=true) (h0:Own w0 M w (Lf (fun _=>false) J)) (hs:Obs P n w0 M J ks rs ms vs Lf 0 l)
  (he:∀ J1 w1 J2,J2=Qsm ks rs vs J1 J live->Own w0 M w1 (Lf (upto ks.length fun _=>true) J1)->N J2 w1):W κ P n (.region id l.toArray true) N R X J w:=by
 have H:=Qx6 hchk
 refine Qwn hm H.rise (Qpb w0 M J ks rs vs Lf l.length) QoW (Qjv h0.drew) (fun i o ho=>Qjh H ho (by simpa using Qm6 l 0 hs i o ho)) fun J1 w1 hf hI=>?_
 obtain ⟨e,hO⟩:=Qnd H hf hI live
 exact he J1 w1 J1 e hO
theorem Qbv {id:Nat} {l:List Oper} (ks:List (Option Nat)) (rs:List (List Nat)) (ms:List Nat) (vs:Vals) (Lf:LfT) (live:List Nat) (hchk:Qqx n ks rs ms l=true) (h0:Own w0 M w (Lf (fun _=>false) J)) (hs:Obs P n w0 M J ks rs ms vs Lf 0 l)
  (he:∀ J1 w1 J2,J2=Qsm ks rs vs J1 J live->Own w0 M w1 (Lf (upto ks.length fun _=>true) J1)->N J2 w1):W κ P n (.region id l.toArray false) N R X J w:=by
 have H:=Qx6 hchk
 refine Qw5 H.rise (Qpb w0 M J ks rs vs Lf l.length) QoW (Qjv h0) (fun i o ho=>Qjh H ho (by simpa using Qm6 l 0 hs i o ho)) fun J1 w1 hf hI=>?_
 obtain ⟨e,hO⟩:=Qnd H hf hI live
 exact he J1 w1 J1 e hO
abbrev pv (v:Value):Bool × (Env->Value):=(true,fun _=>v)
abbrev pg (g:Bool) (v:Value):Bool × (Env->Value):=(g,fun _=>v)
abbrev pn:Bool × (Env->Value):=(true,fun _=>undef)
end
end Go.Vx
namespace Go.Vx
open Go.RowKit
section
variable {P:Program} {e:Operand->Value} {ty:TypeId} {w:World} {K:Value->World->Prop}
theorem Qbg {c b:Operand} {g h':Bool} {z:Operand} (hc:e c = .bool g) (hz:e z = .bool false) (hb:e b=cond (g == true) (.bool h') undef) (h:K (.bool (g&&h')) w):opW P (.pick c b z) ty e w K :=
 QuJ hc hz (fun hg=>by rw [hb,hg];rfl) h
theorem QbP {c b:Operand} {g h':Bool} {z:Operand} (hc:e c = .bool g) (hz:e z = .bool true) (hb:e b=cond (g == false) (.bool h') undef) (h:K (.bool (g||h')) w):opW P (.pick c z b) ty e w K :=
 Qx5 hc hz (fun hg=>by rw [hb,hg];rfl) h
theorem Qi4 {c b:Operand} {g h' G:Bool} {z:Operand} (hG:G=true) (hc:e c = .bool g) (hz:e z = .bool false) (hb:e b=cond (G&&(g == true)) (.bool h') undef) (h:K (.bool (g&&h')) w):opW P (.pick c b z) ty e w K :=
 QuJ hc hz (fun hg=>by rw [hb,hG,hg];rfl) h
theorem QxY {c b:Operand} {g h' G:Bool} {z:Operand} (hG:G=true) (hc:e c = .bool g) (hz:e z = .bool true) (hb:e b=cond (G&&(g == false)) (.bool h') undef) (h:K (.bool (g||h')) w):opW P (.pick c z b) ty e w K :=
 Qx5 hc hz (fun hg=>by rw [hb,hG,hg];rfl) h
end
end Go.Vx
namespace Go.Vx
open Go.RowKit
def Qo2:List (List Value)->List (Nat × Value)->Option (List (List Value))
 | zs,[]=>some zs
 | zs,(i,v) :: rest=>match zs[i]? with
  | none=>none
  | some z=>cond (Nat.beq v.cells.toList.length z.length) (Qo2 (zs.set i v.cells.toList) rest) none
def offs:Nat->List Nat->List (Nat × Nat)
 | _,[]=>[]
 | o,n :: l=>(o,n) :: offs (o+n) l
theorem Qnf:∀ (zs:List (List Value)) (o i:Nat) (z v:List Value),zs[i]?=some z->v.length=z.length->∃ q,(offs o (zs.map (·.length)))[i]?=some (o+q,z.length)/\q+z.length<=zs.flatten.length/\spl zs.flatten q v=(zs.set i v).flatten
 | [],_,i,_,_,h,_=>by simp at h
 | a :: zs,o,0,z,v,h,hv=>by
  simp at h;subst h
  refine ⟨0,by simp [offs],by simp,?_⟩
  rw [List.set_cons_zero,List.flatten_cons,List.flatten_cons,QcW _ _ _ (by rw [QQ7];omega),List.take_zero,List.nil_append,Nat.zero_add,hv,List.drop_left]
 | a :: zs,o,i+1,z,v,h,hv=>by
  simp only [List.getElem?_cons_succ] at h
  obtain ⟨q,h1,h2,h3⟩:=Qnf zs (o+a.length) i z v h hv
  refine ⟨a.length+q,?_,?_,?_⟩
  ·simp only [List.map_cons,offs,List.getElem?_cons_succ,h1];congr 2;omega
  ·rw [List.flatten_cons,QQ7];omega
  ·rw [List.set_cons_succ,List.flatten_cons,List.flatten_cons,← h3,QcW v zs.flatten _ (by omega),QcW v (a++zs.flatten) _ (by rw [QQ7];omega)]
   rw [List.take_length_add_append,show a.length+q+v.length=a.length+(q+v.length) by omega,List.drop_length_add_append]
   simp only [List.append_assoc]
theorem QoE:∀ (vs:List (Nat × Value)) (zs ps:List (List Value)),Qo2 zs vs=some ps->Qjw (offs 0 (zs.map (·.length))) zs.flatten vs=some ps.flatten
 | [],zs,ps,h=>by simp [Qo2] at h;subst h;rfl
 | (i,v) :: rest,zs,ps,h=>by
  unfold Qo2 at h
  cases hz:zs[i]? with
  | none=>rw [hz] at h;cases h
  | some z =>
   rw [hz] at h
   dsimp only at h
   cases hb:Nat.beq v.cells.toList.length z.length with
   | false=>rw [hb] at h;cases h
   | true =>
    rw [hb,cond_true] at h
    have hl:=Nat.eq_of_beq_eq_true hb
    obtain ⟨q,h1,h2,h3⟩:=Qnf zs 0 i z v.cells.toList hz hl
    rw [Nat.zero_add] at h1
    have ih:=QoE rest _ _ h
    have hm:(zs.set i v.cells.toList).map (·.length)=zs.map (·.length):=by
     apply List.ext_getElem?
     intro j
     rw [List.getElem?_map,List.getElem?_map,List.getElem?_set]
     by_cases e:i=j
     ·subst e
      rw [if_pos rfl,hz,if_pos (QaZ hz)]
      simp [hl]
     ·rw [if_neg e]
    rw [hm] at ih
    unfold Qjw
    rw [h1]
    dsimp only
    rw [hb,show Nat.ble (q+z.length) zs.flatten.length=true from (by rw [Nat.ble_eq];exact h2),h3]
    exact ih
section
variable {P:Program} {e:Operand->Value} {ty:TypeId} {w:World} {K:Value->World->Prop}
theorem QcQ {t:Nat} {pl:List (Nat × Nat)} {cs:List Value} {ps:List (Nat × Operand)} {vs:List (Nat × Value)} (zs qs:List (List Value)) (hb:Bt P t pl zs.flatten) (hp:offs 0 (zs.map (·.length))=pl) (hv:ps.map (fun (p:Nat × Operand)=>(p.1,e p.2))=vs) (hf:Qo2 zs vs=some qs) (hc:qs.flatten=cs) (h:K (.agg cs.toArray) w):opW P (.build t ps.toArray) ty e w K:=by
 subst hp
 subst hc
 exact QbI hb hv (QoE vs zs qs hf) h
end
end Go.Vx
namespace Go.Vx
theorem Qfi (a b c:Int) (h1:leI a b=true) (h2:leI b c=true):leI a c=true:=by unfold leI at *;simp at *;omega
theorem QfK (a b:Int):(leI a b||leI b a)=true:=by unfold leI;simp;omega
theorem Qc5:∀ {l m:List Int},l.Perm m->l.Pairwise (fun x y=>leI x y=true)->m.Pairwise (fun x y=>leI x y=true)->l=m
 | [],m,h,_,_=>by have:=h.length_eq;simp at this;exact (List.eq_nil_of_length_eq_zero this.symm).symm
 | a :: l,[],h,_,_=>by have:=h.length_eq;simp at this
 | a :: l,b :: m,h,h1,h2=>by
  rw [List.pairwise_cons] at h1 h2
  have hab:a=b:=by
   have ha:a∈b :: m:=h.subset (by simp)
   have hb:b∈a :: l:=h.symm.subset (by simp)
   rcases List.mem_cons.1 ha with e|ha
   ·exact e
   ·rcases List.mem_cons.1 hb with e|hb
    ·exact e.symm
    ·have:=h1.1 b hb;have:=h2.1 a ha;unfold leI at *;simp at *;omega
  subst hab
  rw [Qc5 (List.Perm.cons_inv h) h1.2 h2.2]
theorem QlJ {l m:List Int} (h:l.Perm m):QaO l=QaO m :=
 Qc5 ((List.mergeSort_perm l leI).trans (h.trans (List.mergeSort_perm m leI).symm)) (List.pairwise_mergeSort Qfi QfK l) (List.pairwise_mergeSort Qfi QfK m)
theorem Qfg {l:List Int} {x:Int}:x∈QaO l↔x∈l:=List.mem_mergeSort
theorem Qeq (l:List Int):(QaO l).length=l.length:=List.length_mergeSort l
theorem Qet {l:List Int} (h:l.Nodup):(QaO l).Pairwise (· < ·):=by
 have h1:(QaO l).Pairwise (fun x y=>leI x y=true):=List.pairwise_mergeSort Qfi QfK l
 have h2:(QaO l).Nodup:=(List.mergeSort_perm l leI).nodup_iff.2 h
 refine (h1.and h2).imp fun {a b} ⟨h3,h4⟩=>?_
 unfold leI at h3
 have:=QQ1 h3
 have h4':a≠b:=h4
 omega
theorem QlD {l m:List Int} (hl:l.Pairwise (· < ·)) (hm:m.Pairwise (· < ·)) (h:∀ x,x∈l↔x∈m):l=m:=by
 have nl:∀ {l:List Int},l.Pairwise (· < ·)->l.Nodup:=fun h=>h.imp fun {a b} (h:a<b) e=>by omega
 have le:∀ {l:List Int},l.Pairwise (· < ·)->l.Pairwise (fun x y=>leI x y=true):=fun h=>h.imp fun {a b} (h:a<b)=>by unfold leI;simp;omega
 exact Qc5 ((List.perm_ext_iff_of_nodup (nl hl) (nl hm)).2 h) (le hl) (le hm)
theorem Qsl {k:IntKind} {a b:Int} (h:Value.int k a=Value.int k b):a=b:=by simpa using h
theorem QiP {k:IntKind} {ks m:List Int} (h:(m.map (Value.int k)).Perm (ks.map (Value.int k))):QaO m=QaO ks:=QlJ (QjG (fun _ _=>Qsl) h)
section
variable {L:List Opn} {cart:Int} {k:Nat} {s:VSt}
theorem Qsf (h:s=vst L cart k) (hk:k<L.length) (hc:¬(gd L k).cart=cart):s=vst L cart (k+1):=by
 rw [Qd9 hk,← h];unfold vstep;rw [if_neg hc]
theorem Qt2 (h:s=vst L cart k) (hk:k<L.length) (hc:(gd L k).cart=cart) (hl:Qbm L (gd L k)=false):(⟨max s.tick (gd L k).tick,s.out,s.items⟩:VSt)=vst L cart (k+1):=by
 rw [Qd9 hk,← h];unfold vstep;rw [if_pos hc,if_neg (by rw [hl];exact Bool.false_ne_true)]
theorem QvA (h:s=vst L cart k) (hk:k<L.length) (hc:(gd L k).cart=cart) (hl:Qbm L (gd L k)=true) (h4:(gd L k).kind=4):(⟨max s.tick (gd L k).tick,true,s.items⟩:VSt)=vst L cart (k+1):=by
 rw [Qd9 hk,← h];unfold vstep;rw [if_pos hc,if_pos hl,if_pos h4]
theorem QtE (h:s=vst L cart k) (hk:k<L.length) (hc:(gd L k).cart=cart) (hl:Qbm L (gd L k)=true) (h4:¬(gd L k).kind=4):(⟨max s.tick (gd L k).tick,s.out,mput (gd L k).item (QcT ((mget (gd L k).item s.items).getD tz) (gd L k)) s.items⟩:VSt)=vst L cart (k+1):=by
 rw [Qd9 hk,← h];unfold vstep;rw [if_pos hc,if_pos hl,if_neg h4]
end
theorem Qdn {κ ν:Type} [DecidableEq κ] {k x:κ} {v:ν}:∀ {l:List (κ × ν)},mget x (mput k v l)=if x=k then some v else mget x l
 | []=>by unfold mput mget;split<;>rfl
 | (a,b) :: l=>by
  unfold mput
  split
  ·rename_i e
   subst e
   unfold mget
   split<;>rename_i h
   ·rfl
   ·rfl
  ·rename_i e
   unfold mget
   split
   ·rename_i h;subst h;rw [if_neg (fun h=>e h.symm)]
   ·exact Qdn
theorem Qqh {t:Tal} {o:Opn} (ht:QbH t.set.ctx) (ho:QbH o.ctx):QbH (QcT t o).set.ctx:=by
 unfold QcT;split
 ·exact ht
 ·split
  ·exact ho
  ·exact ht
theorem Qui:QbH tz.set.ctx:=Qch
theorem QnB {L:List Opn} {cart:Int} (hL:∀ o∈L,QbL o):∀ k,k<=L.length->∀ n,QbH (((mget n (vst L cart k).items).getD tz).set.ctx)
 | 0,_,n=>Qui
 | k+1,hk,n=>by
  have ih:=QnB (cart:=cart) hL k (by omega)
  rw [Qd9 (by omega)]
  unfold vstep
  split
  ·split
   ·split
    ·exact ih n
    ·show QbH ((mget n (mput _ _ _)).getD tz).set.ctx
     rw [Qdn]
     split
     ·exact Qqh (ih _) (hL _ (Qbo (by omega))).2.2.2.2.2.2
     ·exact ih n
   ·exact ih n
  ·exact ih n
theorem Qjs {L:List Opn} {cart:Int}:∀ k,k<=L.length->(vst L cart k).items.length<=k
 | 0,_=>Nat.le_refl _
 | k+1,hk=>by
  have ih:=Qjs (L:=L) (cart:=cart) k (by omega)
  rw [Qd9 (by omega)]
  unfold vstep
  split
  ·split
   ·split
    ·exact Nat.le_succ_of_le ih
    ·show (mput _ _ _).length<=_
     have:=congrArg List.length (Qcj (k:=(gd L k).item) (v:=QcT ((mget (gd L k).item (vst L cart k).items).getD tz) (gd L k)) (l:=(vst L cart k).items))
     rw [QQ6] at this
     rw [this];split
     ·rw [QQ6];omega
     ·rw [QQ7,QQ6];simp;omega
   ·exact Nat.le_succ_of_le ih
  ·exact Nat.le_succ_of_le ih
end Go.Vx
namespace Go.Vx
theorem Qlb {κ ν:Type} [DecidableEq κ] {k:κ} {v:ν} {l:List (κ × ν)}:(mput k v l).length<=l.length+1:=by
 have:=congrArg List.length (Qcj (k:=k) (v:=v) (l:=l))
 rw [QQ6] at this
 rw [this];split
 ·rw [QQ6];omega
 ·rw [QQ7,QQ6];simp
def Qaq (l:List Opn) (v:Vec):List Opn:=l.filter fun o=>QbD v o.dot
theorem Qff {l:List Opn} {v:Vec} {k:Nat} {out:List Opn} (h:out=Qaq (l.take k) v) (hk:k<l.length) (hh:QbD v (gd l k).dot=true):out++[gd l k]=Qaq (l.take (k+1)) v:=by
 unfold Qaq at *;rw [Qd8 hk,List.filter_append,← h];simp [hh]
theorem Qik {l:List Opn} {v:Vec} {k:Nat} {out:List Opn} (h:out=Qaq (l.take k) v) (hk:k<l.length) (hh:QbD v (gd l k).dot=false):out=Qaq (l.take (k+1)) v:=by
 unfold Qaq at *;rw [Qd8 hk,List.filter_append,← h];simp [hh]
theorem QcC {α:Type} {l:List α} {k:Nat} (h:¬k<l.length):l.take k=l:=List.take_of_length_le (by omega)
theorem QhX {α β:Type} [Inhabited α] {f:α->β} {l:List α} {k:Nat} {out:List β} (h:out=(l.take k).map f) (hk:k<l.length):out++[f (gd l k)]=(l.take (k+1)).map f:=by
 rw [Qd8 hk,List.map_append,← h];rfl
theorem Qls {p:Nat->Bool} {k:Nat} (h:∀ j:Nat,j<k->p j=true) (hk:p k=true):∀ j:Nat,j<k+1->p j=true:=by
 intro j hj
 by_cases e:j=k
 ·subst e;exact hk
 ·exact h j (by omega)
end Go.Vx
namespace Go.Vx
theorem QpH {t:Tal} {o:Opn} (ht:0<=t.set.qty/\t.set.qty<65536) (ho:0<=o.qty/\o.qty<65536):0<=(QcT t o).set.qty/\(QcT t o).set.qty<65536:=by
 unfold QcT;split
 ·exact ht
 ·split
  ·exact ho
  ·exact ht
theorem Qon {L:List Opn} {cart:Int} (hL:∀ o∈L,QbL o):∀ k,k<=L.length->∀ n,0<=((mget n (vst L cart k).items).getD tz).set.qty/\((mget n (vst L cart k).items).getD tz).set.qty<65536
 | 0,_,n=>by show (0:Int)<=0/\(0:Int)<65536;decide
 | k+1,hk,n=>by
  have ih:=Qon (cart:=cart) hL k (by omega)
  rw [Qd9 (by omega)]
  unfold vstep
  split
  ·split
   ·split
    ·exact ih n
    ·show 0<=((mget n (mput _ _ _)).getD tz).set.qty/\_
     rw [Qdn]
     split
     ·exact QpH (ih _) (hL _ (Qbo (by omega))).2.2.2.2.1
     ·exact ih n
   ·exact ih n
  ·exact ih n
end Go.Vx
namespace Go.Vx
theorem Rd.roomM {α:Type} {enc:α->List Value} {w:World} {a:Option Addr} {n c k:Nat} {l:List α} (h:Rd w (.slice a n c) k (l.map enc)):l.length<=c:=by
 have:=h.room;rw [QQ6] at this;exact this
theorem Rd.dropM {α:Type} {enc:α->List Value} {w:World} {a:Option Addr} {n c k:Nat} {l:List α} (h:Rd w (.slice a n c) k (l.map enc)) (lo:Nat) (h1:lo<=l.length) (n':Nat) (hn:n'=l.length-lo):Rd w (.slice (sla a lo c k) n' (c-lo)) k ((l.drop lo).map enc):=by
 have:=h.subM lo l.length c h1 (Nat.le_refl _) h.roomM (Nat.le_refl _) n' hn
 rwa [List.take_of_length_le (by rw [List.length_drop];omega)] at this
theorem QuA {o:Opn} {k:Nat} (h:k<16):(oc o)[7+k]?=some (.int .u32 (vat o.ctx k)):=by
 have e:oc o=[.int .u8 o.dot.rep,.int .u32 o.dot.seq,.int .u8 o.kind,.int .u16 o.cart,.int .u16 o.item,.int .u16 o.qty,.int .u32 o.tick]++vc o.ctx:=rfl
 rw [e,List.getElem?_append_right (by simp)]
 have:7+k - [Value.int .u8 o.dot.rep,.int .u32 o.dot.seq,.int .u8 o.kind,.int .u16 o.cart,.int .u16 o.item,.int .u16 o.qty,.int .u32 o.tick].length=k:=by simp
 rw [this]
 exact Qiw o.ctx k h
def QhJ (l:List Opn) (v:Vec) (rep:Int):Int:=(((l.filter fun o=>decide (o.dot.rep=rep)&&QbD v o.dot).length:Nat):Int)
def Qpd (l:List Opn) (k:Nat):Bool:=!QbQ (gd l k).dot||(l.take k).any fun o=>decide (o.dot=(gd l k).dot)
def QfN (l:List Opn) (o:Opn):Bool:=(List.range 16).all fun r=>decide (QhJ l o.ctx (r:Int)=min (vat o.ctx r) 1048576)
def Qbs (l:List Opn):Bool:=((List.range l.length).all fun k=>!Qpd l k)&&l.all fun o=>QfN l o
theorem QjQ {l:List Opn} {k:Nat} (hk:k<l.length) (h:Qpd l k=true):Qbs l=false:=by
 unfold Qbs
 rw [Bool.and_eq_false_iff];left
 rw [List.all_eq_false];exact ⟨k,List.mem_range.2 hk,by simp [h]⟩
theorem Qmh {l:List Opn} {k r:Nat} (hk:k<l.length) (hr:r<16) (h:¬QhJ l (gd l k).ctx (r:Int)=min (vat (gd l k).ctx r) 1048576):Qbs l=false:=by
 unfold Qbs
 rw [Bool.and_eq_false_iff];right
 rw [List.all_eq_false]
 refine ⟨gd l k,Qbo hk,?_⟩
 unfold QfN
 rw [Bool.not_eq_true,List.all_eq_false];exact ⟨r,List.mem_range.2 hr,by simp [h]⟩
theorem QjT {l:List Opn} (h1:∀ j:Nat,j<l.length->Qpd l j=false) (h2:∀ j:Nat,j<l.length->QfN l (gd l j)=true):Qbs l=true:=by
 unfold Qbs
 rw [Bool.and_eq_true,List.all_eq_true,List.all_eq_true]
 refine ⟨fun k hk=>by rw [h1 k (List.mem_range.1 hk)];rfl,fun o ho=>?_⟩
 obtain ⟨j,hj,rfl⟩:=List.mem_iff_getElem.1 ho
 have:=h2 j hj
 simpa [gd,hj] using this
theorem Qmm {l:List Opn} {o:Opn} (h:∀ r:Nat,r<16->QhJ l o.ctx (r:Int)=min (vat o.ctx r) 1048576):QfN l o=true:=by
 unfold QfN;rw [List.all_eq_true];intro r hr;exact QQ3 (h r (List.mem_range.1 hr))
theorem QsB {l:List Opn} {v:Vec} {rep n:Int} {k:Nat} (h:n=QhJ (l.take k) v rep) (hk:k<l.length) (h1:(gd l k).dot.rep=rep) (h2:QbD v (gd l k).dot=true):n+1=QhJ (l.take (k+1)) v rep:=by
 unfold QhJ at *;rw [Qd8 hk,List.filter_append,QQ7,h];simp [h1,h2]
theorem QuU {l:List Opn} {v:Vec} {rep n:Int} {k:Nat} (h:n=QhJ (l.take k) v rep) (hk:k<l.length) (h1:(decide ((gd l k).dot.rep=rep)&&QbD v (gd l k).dot)=false):n=QhJ (l.take (k+1)) v rep:=by
 unfold QhJ at *;rw [Qd8 hk,List.filter_append,QQ7,h];simp [h1]
def Qc6 (last:Int) (l:List Int):Int:=l.foldl (fun nx c=>if last<c/\(nx<0∨c<nx) then c else nx) (-1)
theorem QfY (last:Int) (h0:-1<=last):∀ (l:List Int),(∀ c∈l,0<=c)->((Qc6 last l = -1/\∀ c∈l,c<=last)∨(Qc6 last l∈l/\last<Qc6 last l/\∀ c∈l,last<c->Qc6 last l<=c)):=by
 suffices key:∀ (n:Nat) (l:List Int),l.length=n->(∀ c∈l,0<=c)->((Qc6 last l = -1/\∀ c∈l,c<=last)∨(Qc6 last l∈l/\last<Qc6 last l/\∀ c∈l,last<c->Qc6 last l<=c)) from fun l hl=>key _ l rfl hl
 intro n
 induction n with
 | zero=>intro l hl _;left;have:=List.eq_nil_of_length_eq_zero hl;subst this;exact ⟨rfl,by simp⟩
 | succ n ih0 =>
  intro l0 hn hl
  obtain ⟨l,c,rfl⟩:∃ l c,l0=l++[c]:=by
   rcases List.eq_nil_or_concat l0 with h|⟨l,c,h⟩
   ·subst h;simp at hn
   ·exact ⟨l,c,by simpa using h⟩
  have ih:=ih0 l (by simpa using hn) (fun c hc=>hl c (by simp [hc]))
  have hc:=hl c (by simp)
  have e:Qc6 last (l++[c])=if last<c/\(Qc6 last l<0∨c<Qc6 last l) then c else Qc6 last l:=by unfold Qc6;rw [List.foldl_append];rfl
  rw [e]
  split
  ·rename_i h
   right
   refine ⟨by simp,h.1,fun x hx hlt=>?_⟩
   rcases List.mem_append.1 hx with hx|hx
   ·rcases ih with ⟨_,h2⟩|⟨h1,h2,h3⟩
    ·have:=h2 x hx;omega
    ·have:=h3 x hx hlt;have:=hl _ (List.mem_append_left _ h1);omega
   ·simp at hx;omega
  ·rename_i h
   rcases ih with ⟨h1,h2⟩|⟨h1,h2,h3⟩
   ·left
    refine ⟨h1,fun x hx=>?_⟩
    rcases List.mem_append.1 hx with hx|hx
    ·exact h2 x hx
    ·simp at hx;subst hx;rw [h1] at h
     rcases Int.lt_or_le last x with h4|h4
     ·exact absurd ⟨h4,.inl (by decide)⟩ h
     ·exact h4
   ·right
    refine ⟨by simp [h1],h2,fun x hx hlt=>?_⟩
    rcases List.mem_append.1 hx with hx|hx
    ·exact h3 x hx hlt
    ·simp at hx;subst hx
     rcases Int.lt_or_le x (Qc6 last l) with h4|h4
     ·exact absurd ⟨hlt,.inr h4⟩ h
     ·exact h4
structure UpTo (cs:List Int) (last:Int) (out:List Int):Prop where
 inc:out.Pairwise (· < ·)
 mem:∀ x,x∈out↔x∈cs/\x<=last
theorem Qqy {cs:List Int} (h:∀ c∈cs,0<=c):UpTo cs (-1) []:=⟨by simp,fun x=>by simp;intro hx;have:=h x hx;omega⟩
theorem Qoq {cs:List Int} {last:Int} {out:List Int} (h:UpTo cs last out) (h0:-1<=last) (hc:∀ c∈cs,0<=c) (hn:¬Qc6 last cs<0):UpTo cs (Qc6 last cs) (out++[Qc6 last cs]):=by
 rcases QfY last h0 cs hc with ⟨h1,_⟩|⟨h1,h2,h3⟩
 ·rw [h1] at hn;exact absurd (by decide) hn
 ·refine ⟨?_,fun x=>?_⟩
  ·rw [List.pairwise_append]
   exact ⟨h.inc,by simp,fun a ha b hb=>by simp at hb;subst hb;have:=((h.mem a).1 ha).2;omega⟩
  ·rw [List.mem_append,h.mem]
   constructor
   ·rintro (⟨hx,hle⟩|hx)
    ·exact ⟨hx,by omega⟩
    ·simp at hx;subst hx;exact ⟨h1,Int.le_refl _⟩
   ·rintro ⟨hx,hle⟩
    rcases Int.lt_or_le last x with h4|h4
    ·right;have:=h3 x hx h4;simp;omega
    ·exact .inl ⟨hx,h4⟩
end Go.Vx
namespace Go.Vx
theorem Qmz (x:Int):QaO [x]=[x]:=Qc5 (List.mergeSort_perm [x] leI) (List.pairwise_mergeSort Qfi QfK [x]) (by simp)
theorem Qo7:QaO []=[]:=List.eq_nil_of_length_eq_zero (Qeq [])
def Qdq (v:Value) (k:Nat):Value :=
 match v with
 | .agg cs=>cs.getD k undef
 | _=>undef
end Go.Vx
namespace Go.Vx
section
variable {α:Type} [Inhabited α] {p:α->Bool} {l out:List α} {k:Nat}
theorem Qh1 (h:out=(l.take k).filter p) (hk:k<l.length) (hp:p (gd l k)=true):out++[gd l k]=(l.take (k+1)).filter p:=by
 rw [Qd8 hk,List.filter_append,← h];simp [hp]
theorem Qgf (h:out=(l.take k).filter p) (hk:k<l.length) (hp:p (gd l k)=false):out=(l.take (k+1)).filter p:=by
 rw [Qd8 hk,List.filter_append,← h];simp [hp]
end
theorem Qb3 {l:List Opn} {v:Vec} {o:Opn} (h:o∈Qaq l v):o∈l:=(List.mem_filter.1 h).1
theorem Qel (l:List Opn) (v:Vec):(Qaq l v).length<=l.length:=List.length_filter_le _ _
def vfold (L:List Opn) (cart:Int) (l:List Opn):VSt:=l.foldl (vstep L cart) ⟨0,false,[]⟩
theorem QtG (l:List Opn) (cart:Int):vst l cart l.length=vfold l cart l:=by unfold vst vfold;rw [List.take_length]
theorem Qja (a:Vw):(decide (a.cart=a.cart)&&(a.out == a.out)&&decide (a.tick=a.tick)&&decide (a.lines=a.lines))=true:=by simp
theorem QeL (L:List Opn) (cart:Int) (l:List Opn) (o:Opn):vfold L cart (l++[o])=vstep L cart (vfold L cart l) o:=by unfold vfold;rw [List.foldl_append];rfl
theorem Qbe {α:Type} {motive:List α->Prop} (h0:motive []) (h1:∀ l a,motive l->motive (l++[a])):∀ l,motive l:=by
 suffices key:∀ (n:Nat) (l:List α),l.length=n->motive l from fun l=>key _ l rfl
 intro n
 induction n with
 | zero=>intro l hl;rw [List.eq_nil_of_length_eq_zero hl];exact h0
 | succ n ih =>
  intro l hl
  rcases List.eq_nil_or_concat l with h|⟨m,a,h⟩
  ·subst h;simp at hl
  ·rw [List.concat_eq_append] at h
   subst h
   exact h1 m a (ih m (by simpa using hl))
theorem QlM {L:List Opn} {cart:Int} {s:VSt} {o:Opn}:(vstep L cart s o).tick=if o.cart=cart then max s.tick o.tick else s.tick:=by
 unfold vstep;split<;>(try rfl);split<;>(try rfl);split<;>rfl
theorem Ql0 (L:List Opn) (cart:Int):∀ l,(∀ o∈l,o.cart=cart->o.tick<=(vfold L cart l).tick)/\((vfold L cart l).tick=0∨∃ o∈l,o.cart=cart/\o.tick=(vfold L cart l).tick):=by
 refine Qbe ⟨fun o ho=>(by cases ho),Or.inl rfl⟩ fun l a ih=>?_
 rw [QeL,QlM]
 refine ⟨fun o ho hc=>?_,?_⟩
 ·rcases List.mem_append.1 ho with ho|ho
  ·have:=ih.1 o ho hc;split<;>omega
  ·simp at ho;subst ho;rw [if_pos hc];omega
 ·split
  ·rename_i hc
   rcases Int.lt_or_le (vfold L cart l).tick a.tick with h|h
   ·right;exact ⟨a,by simp,hc,by omega⟩
   ·rcases ih.2 with h0|⟨o,ho,h1,h2⟩
    ·left;omega
    ·right;exact ⟨o,by simp [ho],h1,by omega⟩
  ·rcases ih.2 with h0|⟨o,ho,h1,h2⟩
   ·exact .inl h0
   ·exact .inr ⟨o,by simp [ho],h1,h2⟩
theorem QlH {L:List Opn} {cart:Int} {s:VSt} {o:Opn} (h:(s.items.map (·.1)).Nodup):((vstep L cart s o).items.map (·.1)).Nodup:=by
 unfold vstep
 split
 ·split
  ·split
   ·exact h
   ·show ((mput _ _ _).map _).Nodup
    rw [Qcj]
    split
    ·exact h
    ·rename_i hn
     rw [List.nodup_append]
     exact ⟨h,by simp,fun a ha b hb=>by simp at hb;subst hb;exact fun e=>hn (e ▸ ha)⟩
  ·exact h
 ·exact h
theorem Qme (L:List Opn) (cart:Int):∀ l,((vfold L cart l).items.map (·.1)).Nodup:=Qbe (by simp [vfold]) fun l a ih=>by rw [QeL];exact QlH ih
structure IsClosed (l:List Opn):Prop where
 nd:(l.map (·.dot)).Nodup
 dot:∀ o∈l,QbQ o.dot=true
 known:∀ o∈l,∀ r:Nat,r<16->∀ j:Nat,((j+1:Nat):Int)<=min (vat o.ctx r) 1048576->(⟨(r:Int),((j+1:Nat):Int)⟩:Dot)∈l.map (·.dot)
theorem QhH {l:List Opn}:(l.map (·.dot)).Nodup↔∀ k,k<l.length->(gd l k).dot ∉ (l.take k).map (·.dot):=by
 constructor
 ·intro h k hk hm
  obtain ⟨o,ho,he⟩:=List.mem_map.1 hm
  obtain ⟨j,hj,rfl⟩:=List.mem_iff_getElem.1 ho
  rw [List.length_take] at hj
  have hjk:j<k:=by omega
  rw [List.getElem_take] at he
  have:=List.pairwise_iff_getElem.1 h j k (by simpa using (by omega:j<l.length)) (by simpa using hk) hjk
  simp only [List.getElem_map] at this
  exact this (by rw [he];simp [gd,hk])
 ·intro h
  rw [List.Nodup,List.pairwise_iff_getElem]
  intro i j hi hj hij e
  simp only [QQ6] at hi hj
  refine h j hj ?_
  rw [List.mem_map]
  refine ⟨l[i],?_,?_⟩
  ·rw [List.mem_take_iff_getElem];exact ⟨i,by omega,rfl⟩
  ·simp only [List.getElem_map] at e
   rw [e];simp [gd,hj]
theorem QrH {α:Type} [Inhabited α] {l:List α} {p:α->Prop}:(∀ x∈l,p x)↔∀ k,k<l.length->p (gd l k):=by
 constructor
 ·intro h k hk;exact h _ (Qbo hk)
 ·intro h x hx
  obtain ⟨j,hj,rfl⟩:=List.mem_iff_getElem.1 hx
  have:=h j hj
  simpa [gd,hj] using this
theorem QhV {α:Type} [DecidableEq α]:∀ {F T:List α},F.Nodup->(∀ x∈F,x∈T)->F.length<=T.length
 | [],T,_,_=>Nat.zero_le _
 | a :: F,T,h,hs=>by
  rw [List.nodup_cons] at h
  have ha:=hs a (by simp)
  have:=QhV (F:=F) (T:=T.erase a) h.2 (fun x hx=>(List.mem_erase_of_ne (fun e=>h.1 (by rw [← e];exact hx))).2 (hs x (by simp [hx])))
  rw [List.length_erase_of_mem ha] at this
  have:=List.length_pos_of_mem ha
  simp only [List.length_cons];omega
theorem Qsb {α:Type} [DecidableEq α] {F T:List α} (h:F.Nodup) (hs:∀ x∈F,x∈T) (hl:T.length<=F.length):∀ x∈T,x∈F:=by
 intro x hx
 by_cases hf:x∈F
 ·exact hf
 ·have:=QhV (F:=F) (T:=T.erase x) h (fun y hy=>(List.mem_erase_of_ne (fun e=>hf (by rw [← e];exact hy))).2 (hs y hy))
  rw [List.length_erase_of_mem hx] at this
  have:=List.length_pos_of_mem hx
  omega
theorem Qok {l:List Opn} {v:Vec} (hv:QbH v) {r:Nat} (hnd:(l.map (·.dot)).Nodup) (hd:∀ o∈l,QbQ o.dot=true) (hok:∀ o∈l,QcS o.dot) (hr:r<16):QhJ l v (r:Int)=min (vat v r) 1048576↔∀ j:Nat,((j+1:Nat):Int)<=min (vat v r) 1048576->(⟨(r:Int),((j+1:Nat):Int)⟩:Dot)∈l.map (·.dot):=by
 have hv0:=Qgy hv r
 let F:=(l.filter fun o=>decide (o.dot.rep=(r:Int))&&QbD v o.dot).map (·.dot)
 let T:List Dot:=(List.range (min (vat v r) 1048576).toNat).map fun j=>⟨(r:Int),((j+1:Nat):Int)⟩
 have hT:T.length=(min (vat v r) 1048576).toNat:=by simp [T]
 have hF:QhJ l v (r:Int)=((F.length:Nat):Int):=by simp [F,QhJ]
 have hFn:F.Nodup:=hnd.sublist ((List.filter_sublist).map _)
 have hTn:T.Nodup:=by
  show List.Pairwise _ _
  rw [List.pairwise_map]
  refine List.nodup_range.imp fun {a b} (h:a≠b)=>?_
  intro e
  rw [Dot.mk.injEq] at e
  exact h (by omega)
 have mF:∀ x,x∈F↔x∈l.map (·.dot)/\x.rep=(r:Int)/\x.seq<=vat v r:=by
  intro x
  simp only [F,List.mem_map,List.mem_filter,Bool.and_eq_true,decide_eq_true_eq]
  constructor
  ·rintro ⟨o,⟨ho,h1,h2⟩,rfl⟩
   unfold QbD at h2
   rw [Bool.and_eq_true,decide_eq_true_iff,h1,Int.toNat_natCast] at h2
   exact ⟨⟨o,ho,rfl⟩,h1,h2.2⟩
  ·rintro ⟨⟨o,ho,rfl⟩,h1,h2⟩
   refine ⟨o,⟨ho,h1,?_⟩,rfl⟩
   unfold QbD
   rw [hd o ho,Bool.true_and,decide_eq_true_iff,h1,Int.toNat_natCast];exact h2
 have mT:∀ x,x∈T↔x.rep=(r:Int)/\1<=x.seq/\x.seq<=min (vat v r) 1048576:=by
  intro x
  simp only [T,List.mem_map,List.mem_range]
  constructor
  ·rintro ⟨j,hj,rfl⟩
   refine ⟨rfl,?_,?_⟩
   ·show (1:Int)<=((j+1:Nat):Int);omega
   ·show ((j+1:Nat):Int)<=_;omega
  ·rintro ⟨h1,h2,h3⟩
   exact ⟨(x.seq-1).toNat,by omega,QfX h1.symm (by show (((x.seq-1).toNat+1:Nat):Int)=x.seq;omega)⟩
 have hsub:∀ x∈F,x∈T:=by
  intro x hx
  obtain ⟨h1,h2,h3⟩:=(mF x).1 hx
  obtain ⟨o,ho,rfl⟩:=List.mem_map.1 h1
  have:=QaS (hd o ho)
  exact (mT _).2 ⟨h2,by omega,by omega⟩
 have hle:=QhV hFn hsub
 rw [hF]
 constructor
 ·intro h j hj
  have:=Qsb hFn hsub (by omega) ⟨(r:Int),((j+1:Nat):Int)⟩ ((mT _).2 ⟨rfl,by show (1:Int)<=((j+1:Nat):Int);omega,hj⟩)
  exact ((mF _).1 this).1
 ·intro h
  have hsub2:∀ x∈T,x∈F:=by
   intro x hx
   obtain ⟨h1,h2,h3⟩:=(mT x).1 hx
   have hj:=h (x.seq-1).toNat (by omega)
   have e:(⟨(r:Int),(((x.seq-1).toNat+1:Nat):Int)⟩:Dot)=x:=QfX h1.symm (by show (((x.seq-1).toNat+1:Nat):Int)=x.seq;omega)
   rw [e] at hj
   exact (mF x).2 ⟨hj,h1,by omega⟩
  have:=QhV hTn hsub2
  omega
theorem QjV {l:List Opn} (hl:∀ o∈l,QbL o):Qbs l=true↔IsClosed l:=by
 unfold Qbs
 rw [Bool.and_eq_true,List.all_eq_true,List.all_eq_true]
 have hb:∀ k,(Qpd l k=false↔(gd l k).dot ∉ (l.take k).map (·.dot)/\QbQ (gd l k).dot=true):=by
  intro k
  unfold Qpd
  rw [Bool.or_eq_false_iff,Bool.not_eq_false',List.any_eq_false]
  constructor
  ·rintro ⟨h1,h2⟩
   refine ⟨fun hm=>?_,h1⟩
   obtain ⟨o,ho,he⟩:=List.mem_map.1 hm
   exact h2 o ho (QQ3 he)
  ·rintro ⟨h1,h2⟩
   exact ⟨h2,fun o ho he=>h1 (List.mem_map.2 ⟨o,ho,QQ1 he⟩)⟩
 have part:(∀ x∈List.range l.length,(!Qpd l x)=true)↔(l.map (·.dot)).Nodup/\∀ o∈l,QbQ o.dot=true:=by
  constructor
  ·intro h1
   have h1':∀ k,k<l.length->Qpd l k=false:=fun k hk=>by have:=h1 k (List.mem_range.2 hk);simpa using this
   exact ⟨QhH.2 fun k hk'=>((hb k).1 (h1' k hk')).1,QrH.2 fun k hk'=>((hb k).1 (h1' k hk')).2⟩
  ·rintro ⟨h1,h2⟩ k hk
   have hk2:=List.mem_range.1 hk
   rw [(hb k).2 ⟨QhH.1 h1 k hk2,QrH.1 h2 k hk2⟩];rfl
 rw [part]
 have hk:(l.map (·.dot)).Nodup->(∀ o∈l,QbQ o.dot=true)->∀ o∈l,(QfN l o=true↔∀ r:Nat,r<16->∀ j:Nat,((j+1:Nat):Int)<=min (vat o.ctx r) 1048576->(⟨(r:Int),((j+1:Nat):Int)⟩:Dot)∈l.map (·.dot)):=by
  intro h1 h2 o ho
  unfold QfN
  rw [List.all_eq_true]
  constructor
  ·intro h r hr
   exact (Qok (hl o ho).2.2.2.2.2.2 h1 h2 (fun o ho=>(hl o ho).1) hr).1 (QQ1 (h r (List.mem_range.2 hr)))
  ·intro h r hr
   have hr2:=List.mem_range.1 hr
   exact QQ3 ((Qok (hl o ho).2.2.2.2.2.2 h1 h2 (fun o ho=>(hl o ho).1) hr2).2 (h r hr2))
 constructor
 ·rintro ⟨⟨h1,h2⟩,h3⟩;exact ⟨h1,h2,fun o ho=>(hk h1 h2 o ho).1 (h3 o ho)⟩
 ·intro h;exact ⟨⟨h.nd,h.dot⟩,fun o ho=>(hk h.nd h.dot o ho).2 (h.known o ho)⟩
end Go.Vx
namespace Go.Vx
theorem Qfp (a b:Opn):Qc7 a b=true↔(Qba a<Qba b∨(Qba a=Qba b/\(a.dot.rep<b.dot.rep∨(a.dot.rep=b.dot.rep/\a.dot.seq<b.dot.seq)))):=by
 unfold Qc7 orI QaR
 rw [decide_eq_true_iff]
 rcases Int.lt_trichotomy (Qba a) (Qba b) with h|h|h
 ·simp [h]
 ·rw [if_neg (by omega),if_neg (by omega)]
  rcases Int.lt_trichotomy a.dot.rep b.dot.rep with h2|h2|h2
  ·simp [h,h2]
  ·rw [if_neg (by omega),if_neg (by omega)]
   rcases Int.lt_trichotomy a.dot.seq b.dot.seq with h3|h3|h3
   ·simp [h,h2,h3]
   ·rw [if_neg (by omega),if_neg (by omega)]
    simp;omega
   ·rw [if_neg (by omega),if_pos h3]
    simp;omega
  ·rw [if_neg (by omega),if_pos h2]
   simp;omega
 ·rw [if_neg (by omega),if_pos h]
  simp;omega
structure EqS (s t:VSt):Prop where
 tick:s.tick=t.tick
 out:s.out=t.out
 items:∀ n,mget n s.items=mget n t.items
theorem EqS.refl (s:VSt):EqS s s:=⟨rfl,rfl,fun _=>rfl⟩
theorem EqS.trans {s t u:VSt} (h:EqS s t) (g:EqS t u):EqS s u:=⟨h.tick.trans g.tick,h.out.trans g.out,fun n=>(h.items n).trans (g.items n)⟩
theorem EqS.step {L:List Opn} {cart:Int} {s t:VSt} (h:EqS s t) (o:Opn):EqS (vstep L cart s o) (vstep L cart t o):=by
 unfold vstep
 split
 ·split
  ·split
   ·exact ⟨by rw [h.tick],rfl,h.items⟩
   ·refine ⟨by rw [h.tick],h.out,fun n=>?_⟩
    show mget n (mput _ _ _)=mget n (mput _ _ _)
    rw [Qdn,Qdn,h.items,h.items]
  ·exact ⟨by rw [h.tick],h.out,h.items⟩
 ·exact h
end Go.Vx
namespace Go.Vx
structure Cen where
 cart:Int
 item:Int
 qty:Int
 kind:Int
 dot:Dot
 count:Int
 deriving DecidableEq
instance:Inhabited Cen:=⟨⟨0,0,0,0,⟨0,0⟩,0⟩⟩
def cec (e:Cen):List Value:=[.int .u16 e.cart,.int .u16 e.item,.int .u16 e.qty,.int .u8 e.kind,.int .u8 e.dot.rep,.int .u32 e.dot.seq,.int .u64 e.count]
theorem Qby (e:Cen):∀ x∈cec e,x.oneCell'=true:=by
 intro x hx;simp only [cec,List.mem_cons,List.not_mem_nil,or_false] at hx;rcases hx with h|h|h|h|h|h|h<;>subst h<;>rfl
structure Lst where
 cart:Int
 tick:Int
 deriving DecidableEq
instance:Inhabited Lst:=⟨⟨0,0⟩⟩
def lsc (x:Lst):List Value:=[.int .u16 x.cart,.int .u32 x.tick]
theorem Qcp (x:Lst):∀ y∈lsc x,y.oneCell'=true:=by
 intro y hy;simp only [lsc,List.mem_cons,List.not_mem_nil,or_false] at hy;rcases hy with h|h<;>subst h<;>rfl
structure Sta where
 known:Vec
 ents:List Cen
 ticks:List Lst
def Qj2 (e:Cen):Prop:=(0<=e.cart/\e.cart<65536)/\(0<=e.item/\e.item<65536)/\(0<=e.qty/\e.qty<65536)/\(0<=e.kind/\e.kind<256)/\QcS e.dot/\(0<=e.count/\e.count<18446744073709551616)
def QiT (x:Lst):Prop:=(0<=x.cart/\x.cart<65536)/\(0<=x.tick/\x.tick<4294967296)
def Qco (a b:Cen):Bool:=if a.cart=b.cart then (if a.dot.rep=b.dot.rep then decide (a.dot.seq<b.dot.seq) else decide (a.dot.rep<b.dot.rep)) else decide (a.cart<b.cart)
def Qb1 (a b:Cen):Int:=orI [QaR a.cart b.cart,QaR a.dot.rep b.dot.rep,QaR a.dot.seq b.dot.seq]
theorem QdX (a b:Cen):Qco a b=true↔(a.cart<b.cart∨(a.cart=b.cart/\(a.dot.rep<b.dot.rep∨(a.dot.rep=b.dot.rep/\a.dot.seq<b.dot.seq)))):=by
 unfold Qco
 split
 ·split
  ·rw [decide_eq_true_iff];omega
  ·rw [decide_eq_true_iff];omega
 ·rw [decide_eq_true_iff];omega
theorem Qd3 (a b:Cen):Qb1 a b<0↔Qco a b=true:=by
 rw [QdX]
 unfold Qb1 orI QaR
 rcases Int.lt_trichotomy a.cart b.cart with h|h|h
 ·simp [h]
 ·rw [if_neg (by omega),if_neg (by omega)]
  rcases Int.lt_trichotomy a.dot.rep b.dot.rep with h2|h2|h2
  ·simp [h,h2]
  ·rw [if_neg (by omega),if_neg (by omega)]
   rcases Int.lt_trichotomy a.dot.seq b.dot.seq with h3|h3|h3
   ·simp [h,h2,h3]
   ·rw [if_neg (by omega),if_neg (by omega)]
    simp;omega
   ·rw [if_neg (by omega),if_pos h3]
    simp;omega
  ·rw [if_neg (by omega),if_pos h2]
   simp;omega
 ·rw [if_neg (by omega),if_pos h]
  simp;omega
theorem QcE {a b c:Cen} (h:Qco a b=true) (g:Qco b c=true):Qco a c=true:=by rw [QdX] at *;omega
theorem Qb5 (a:Cen):Qco a a=false:=by
 rw [Bool.eq_false_iff,ne_eq,QdX];omega
def QiC (l:List Cen):Prop:=l.Pairwise fun a b=>Qco a b=true
theorem Qo3 {l m:List Cen} (hl:QiC l) (hm:QiC m) (h:∀ x,x∈l↔x∈m):l=m:=by
 induction l generalizing m with
 | nil =>
  cases m with
  | nil=>rfl
  | cons b m=>exact absurd ((h b).2 (by simp)) (by simp)
 | cons a l ih =>
  cases m with
  | nil=>exact absurd ((h a).1 (by simp)) (by simp)
  | cons b m =>
   rw [QiC,List.pairwise_cons] at hl hm
   have hab:a=b:=by
    rcases List.mem_cons.1 ((h a).1 (by simp)) with e|e
    ·exact e
    ·rcases List.mem_cons.1 ((h b).2 (by simp)) with e2|e2
     ·exact e2.symm
     ·have:=QcE (hl.1 b e2) (hm.1 a e)
      rw [Qb5] at this;cases this
   subst hab
   congr 1
   refine ih hl.2 hm.2 fun x=>?_
   have hx:=h x
   simp only [List.mem_cons] at hx
   constructor
   ·intro hxl
    rcases hx.1 (.inr hxl) with e|e
    ·subst e;have:=hl.1 x hxl;rw [Qb5] at this;cases this
    ·exact e
   ·intro hxm
    rcases hx.2 (.inr hxm) with e|e
    ·subst e;have:=hm.1 x hxm;rw [Qb5] at this;cases this
    ·exact e
def QdQ (l:List Lst):Prop:=l.Pairwise fun a b=>a.cart<b.cart
theorem Qte {l m:List Lst} (hl:QdQ l) (hm:QdQ m) (h:∀ x,x∈l↔x∈m):l=m:=by
 induction l generalizing m with
 | nil =>
  cases m with
  | nil=>rfl
  | cons b m=>exact absurd ((h b).2 (by simp)) (by simp)
 | cons a l ih =>
  cases m with
  | nil=>exact absurd ((h a).1 (by simp)) (by simp)
  | cons b m =>
   rw [QdQ,List.pairwise_cons] at hl hm
   have hab:a=b:=by
    rcases List.mem_cons.1 ((h a).1 (by simp)) with e|e
    ·exact e
    ·rcases List.mem_cons.1 ((h b).2 (by simp)) with e2|e2
     ·exact e2.symm
     ·have h1:=hl.1 b e2;have h2:=hm.1 a e;omega
   subst hab
   congr 1
   refine ih hl.2 hm.2 fun x=>?_
   have hx:=h x
   simp only [List.mem_cons] at hx
   constructor
   ·intro hxl
    rcases hx.1 (.inr hxl) with e|e
    ·subst e;have:=hl.1 x hxl;omega
    ·exact e
   ·intro hxm
    rcases hx.2 (.inr hxm) with e|e
    ·subst e;have:=hm.1 x hxm;omega
    ·exact e
def QaL (ts:List Lst) (c:Int):Option Int:=(ts.find? fun x=>decide (x.cart=c)).map (·.tick)
def Qdg (e:Cen):Bool:=if e.kind=1 then decide (1<=e.qty) else if e.kind=2 then true else decide (e.kind=4)&&(decide (e.item=0)&&decide (e.qty=0))
def Qlr (s:Sta) (e:Cen):Bool:=(QaL s.ticks e.cart).isSome&&Qdg e&&QbD s.known e.dot&&decide (1<=e.count)&&decide (e.count<=16777217)
structure RightC (s:Sta):Prop where
 known:QaQ s.known 16=true
 rt:QdQ s.ticks
 tick:∀ x∈s.ticks,x.tick<=1073741824
 re:QiC s.ents
 ent:∀ e∈s.ents,Qlr s e=true
 nd:(s.ents.map (·.dot)).Nodup
def QaG (e:Cen):Opn:=⟨e.dot,e.kind,e.cart,e.item,e.qty,0,vzero⟩
def Qdh (o:Opn):Cen:=⟨o.cart,o.item,o.qty,o.kind,o.dot,Qba o⟩
theorem Qi6 (o x:Opn):Qay o (QaG (Qdh x))=Qay o x:=rfl
def Qlv (e:Cen):List Cen->List Cen
 | []=>[e]
 | x :: l=>if Qco e x=true then e :: x :: l else x :: Qlv e l
theorem QfL {e x:Cen}:∀ {l:List Cen},x∈Qlv e l↔x=e∨x∈l
 | []=>by simp [Qlv]
 | y :: l=>by
  unfold Qlv;split
  ·simp
  ·rw [List.mem_cons,QfL,List.mem_cons]
   constructor
   ·rintro (h|h|h)
    ·exact .inr (.inl h)
    ·exact .inl h
    ·exact .inr (.inr h)
   ·rintro (h|h|h)
    ·exact .inr (.inl h)
    ·exact .inl h
    ·exact .inr (.inr h)
theorem Qe3 {a b:Cen} (h:a.dot≠b.dot):Qco a b=true∨Qco b a=true:=by
 have hd:¬(a.dot.rep=b.dot.rep/\a.dot.seq=b.dot.seq):=fun ⟨h1,h2⟩=>h (by cases ha:a.dot;cases hb:b.dot;rw [ha,hb] at h1 h2;simp_all)
 rw [QdX,QdX];omega
theorem Qiu {e:Cen}:∀ {l:List Cen},QiC l->e.dot ∉ l.map (·.dot)->QiC (Qlv e l)
 | [],_,_=>by simp [Qlv,QiC]
 | x :: l,h,hn=>by
  rw [List.map_cons,List.mem_cons] at hn
  have hx:=List.pairwise_cons.1 h
  unfold Qlv;split
  ·rename_i ha
   refine List.pairwise_cons.2 ⟨fun y hy=>?_,h⟩
   rcases List.mem_cons.1 hy with e1|e1
   ·subst e1;exact ha
   ·exact QcE ha (hx.1 y e1)
  ·rename_i ha
   refine List.pairwise_cons.2 ⟨fun y hy=>?_,Qiu hx.2 fun hm=>hn (.inr hm)⟩
   rcases QfL.1 hy with e1|e1
   ·subst e1
    rcases Qe3 (a:=y) (b:=x) (fun e2=>hn (.inl e2)) with g|g
    ·exact absurd g ha
    ·exact g
   ·exact hx.1 y e1
def QdP (c t:Int):List Lst->List Lst
 | []=>[⟨c,t⟩]
 | x :: l=>if x.cart=c then ⟨c,max x.tick t⟩ :: l else if c<x.cart then ⟨c,t⟩ :: x :: l else x :: QdP c t l
theorem Qc9 {c t d:Int}:∀ {l:List Lst},QdQ l->QaL (QdP c t l) d=if d=c then some (match QaL l c with|none=>t|some u=>max u t) else QaL l d
 | [],_=>by
  unfold QdP QaL
  by_cases h:d=c
  ·subst h;simp
  ·simp [h,show ¬c=d from fun e=>h e.symm]
 | x :: l,h=>by
  have hx:=List.pairwise_cons.1 h
  unfold QdP
  split
  ·rename_i hc
   by_cases hd:d=c
   ·subst hd;simp [QaL,hc]
   ·simp [QaL,hc,hd,show ¬c=d from fun e=>hd e.symm]
  ·rename_i hc
   split
   ·rename_i hlt
    have hno:QaL (x :: l) c=none:=by
     unfold QaL
     rw [Option.map_eq_none_iff,List.find?_eq_none]
     intro y hy
     rcases List.mem_cons.1 hy with e1|e1
     ·subst e1;simpa using hc
     ·have:=hx.1 y e1;simp;omega
    by_cases hd:d=c
    ·subst hd;rw [if_pos rfl,hno];simp [QaL]
    ·rw [if_neg hd];simp [QaL,show ¬c=d from fun e=>hd e.symm]
   ·have ih:=Qc9 (c:=c) (t:=t) (d:=d) hx.2
    by_cases hd:x.cart=d
    ·subst hd
     rw [if_neg hc];simp [QaL]
    ·have e1:QaL (x :: QdP c t l) d=QaL (QdP c t l) d:=by simp [QaL,hd]
     have e2:QaL (x :: l) d=QaL l d:=by simp [QaL,hd]
     have e3:QaL (x :: l) c=QaL l c:=by simp [QaL,hc]
     rw [e1,ih,e2,e3]
theorem Qko {c t:Int} {x:Lst}:∀ {l:List Lst},x∈QdP c t l->x.cart=c∨x∈l
 | [],h=>by simp [QdP] at h;subst h;exact .inl rfl
 | y :: l,h=>by
  unfold QdP at h
  split at h
  ·rcases List.mem_cons.1 h with e|e
   ·subst e;exact .inl rfl
   ·exact .inr (by simp [e])
  ·split at h
   ·rcases List.mem_cons.1 h with e|e
    ·subst e;exact .inl rfl
    ·exact .inr e
   ·rcases List.mem_cons.1 h with e|e
    ·subst e;exact .inr (by simp)
    ·rcases Qko e with g|g
     ·exact .inl g
     ·exact .inr (by simp [g])
theorem Qie {c t:Int}:∀ {l:List Lst},QdQ l->QdQ (QdP c t l)
 | [],_=>by simp [QdP,QdQ]
 | x :: l,h=>by
  have hx:=List.pairwise_cons.1 h
  unfold QdP;split
  ·rename_i hc
   exact List.pairwise_cons.2 ⟨fun y hy=>by have:=hx.1 y hy;show c<y.cart;omega,hx.2⟩
  ·split
   ·rename_i hlt
    refine List.pairwise_cons.2 ⟨fun y hy=>?_,h⟩
    rcases List.mem_cons.1 hy with e|e
    ·subst e;exact hlt
    ·have:=hx.1 y e;show c<y.cart;omega
   ·refine List.pairwise_cons.2 ⟨fun y hy=>?_,Qie hx.2⟩
    rcases Qko hy with e|e
    ·rw [e];omega
    ·exact hx.1 y e
theorem QeJ {l:List Lst} (h:QdQ l) (x:Lst):x∈l↔QaL l x.cart=some x.tick:=by
 induction l with
 | nil=>simp [QaL]
 | cons y l ih =>
  have hy:=List.pairwise_cons.1 h
  rw [List.mem_cons]
  by_cases he:y.cart=x.cart
  ·have e1:QaL (y :: l) x.cart=some y.tick:=by simp [QaL,he]
   rw [e1]
   constructor
   ·rintro (e|e)
    ·subst e;rfl
    ·have:=hy.1 x e;omega
   ·intro e
    left
    cases x;cases y
    simp at he e
    subst he;subst e;rfl
  ·have e1:QaL (y :: l) x.cart=QaL l x.cart:=by simp [QaL,he]
   rw [e1,← ih hy.2]
   constructor
   ·rintro (e|e)
    ·subst e;exact absurd rfl he
    ·exact e
   ·exact .inr
theorem Qkt {l m:List Lst} (hl:QdQ l) (hm:QdQ m) (h:∀ c,QaL l c=QaL m c):l=m :=
 Qte hl hm fun x=>by rw [QeJ hl,QeJ hm,h]
end Go.Vx
namespace Go.Vx
def Qci (o:Opn):Bool:=if o.kind=1 then decide (1<=o.qty) else if o.kind=2 then true else if o.kind=3 then decide (o.qty=0) else if o.kind=4∨o.kind=5 then decide (o.item=0)&&decide (o.qty=0) else false
def QcJ (o:Opn):Bool:=decide (o.dot.rep<16)&&QbQ o.dot&&QaQ o.ctx 16&&decide (vat o.ctx o.dot.rep.toNat=o.dot.seq-1)&&decide (o.tick<=1073741824)&&Qci o
def QbM (known:Vec) (o:Opn):Int:=if QcJ o=false then 2 else if QbD known o.dot=true then 8 else if vle o.ctx known=false then 9 else 0
def Qbw (l:List Opn):Vec:=l.foldl (fun v o=>vset v o.dot.rep.toNat o.dot.seq) vzero
theorem Qdw (l:List Opn) (o:Opn):Qbw (l++[o])=vset (Qbw l) o.dot.rep.toNat o.dot.seq:=by unfold Qbw;rw [List.foldl_append];rfl
structure DotP (d:Dot):Prop where
 r0:0<=d.rep
 r1:d.rep<16
 s0:1<=d.seq
 s1:d.seq<=1048576
theorem DotP.b {d:Dot} (h:DotP d):QbQ d=true:=by
 obtain ⟨_,_,_,_⟩:=h
 simp [QbQ];omega
theorem Qei {v:Vec} {d:Dot} (h:DotP d):QbD v d=true↔d.seq<=vat v d.rep.toNat:=by
 unfold QbD;rw [h.b,Bool.true_and,decide_eq_true_iff]
inductive Seq:List Opn->Prop
 | nil:Seq []
 | snoc {l:List Opn} {o:Opn}:Seq l->QbL o->QcJ o=true->DotP o.dot->o.dot ∉ l.map (·.dot)->(∀ d,DotP d->QbD o.ctx d=true->d∈l.map (·.dot))->Seq (l++[o])
theorem Seq.cut {l:List Opn} {o:Opn} (h:Seq (l++[o])):Seq l/\QbL o/\QcJ o=true/\DotP o.dot/\o.dot ∉ l.map (·.dot)/\∀ d,DotP d->QbD o.ctx d=true->d∈l.map (·.dot):=by
 generalize hm:l++[o]=m at h
 cases h with
 | nil=>simp at hm
 | snoc h1 h2 h3 h4 h5 h6 =>
  obtain ⟨e1,e2⟩:=List.append_inj' hm rfl
  simp at e2
  subst e1;subst e2
  exact ⟨h1,h2,h3,h4,h5,h6⟩
theorem Seq.dots {l:List Opn} (h:Seq l):∀ o∈l,DotP o.dot/\QbL o/\QcJ o=true:=by
 induction h with
 | nil=>intro o ho;cases ho
 | snoc _ h2 h3 h4 _ _ ih =>
  intro o ho
  rcases List.mem_append.1 ho with h|h
  ·exact ih o h
  ·rw [List.mem_singleton.1 h];exact ⟨h4,h2,h3⟩
theorem Seq.nodup {l:List Opn} (h:Seq l):(l.map (·.dot)).Nodup:=by
 induction h with
 | nil=>simp
 | snoc _ _ _ _ h5 _ ih =>
  rw [List.map_append,List.nodup_append]
  exact ⟨ih,by simp,fun a ha b hb e=>by simp at hb;subst hb;subst e;exact h5 ha⟩
theorem Seq.known {l:List Opn} (h:Seq l):(∀ i,0<=vat (Qbw l) i/\vat (Qbw l) i<=1048576)/\∀ d,DotP d->(d.seq<=vat (Qbw l) d.rep.toNat↔d∈l.map (·.dot)):=by
 induction h with
 | nil =>
  refine ⟨fun i=>?_,fun d hd=>?_⟩
  ·show 0<=vat vzero i/\vat vzero i<=_
   unfold vat vzero;split<;>omega
  ·show d.seq<=vat vzero _↔_
   have:=hd.s0
   have h0:vat vzero d.rep.toNat=0:=by unfold vat vzero;split<;>rfl
   rw [h0];simp;omega
 | @snoc l o h1 h2 h3 h4 h5 h6 ih =>
  have hr:o.dot.rep.toNat<16:=by have:=h4.r0;have:=h4.r1;omega
  have hctx:vat o.ctx o.dot.rep.toNat=o.dot.seq-1:=by
   unfold QcJ at h3;simp only [Bool.and_eq_true,decide_eq_true_eq] at h3;exact h3.1.1.2
  have hlt:vat (Qbw l) o.dot.rep.toNat<o.dot.seq:=by
   have:=(ih.2 o.dot h4).mp
   rcases Int.lt_or_le (vat (Qbw l) o.dot.rep.toNat) o.dot.seq with g|g
   ·exact g
   ·exact absurd (this g) h5
  have hge:o.dot.seq-1<=vat (Qbw l) o.dot.rep.toNat:=by
   by_cases h0:o.dot.seq=1
   ·have:=(ih.1 o.dot.rep.toNat).1;omega
   ·have hd:DotP ⟨o.dot.rep,o.dot.seq-1⟩:=⟨h4.r0,h4.r1,by have:=h4.s0;show 1<=o.dot.seq-1;omega,by have:=h4.s1;show o.dot.seq-1<=_;omega⟩
    exact (ih.2 _ hd).mpr (h6 _ hd ((Qei hd).mpr (by show o.dot.seq-1<=vat o.ctx o.dot.rep.toNat;omega)))
  rw [Qdw]
  refine ⟨fun i=>?_,fun d hd=>?_⟩
  ·by_cases hi:i<16
   ·rw [Qb7 _ _ _ _ hi];split
    ·have:=h4.s0;have:=h4.s1;omega
    ·exact ih.1 i
   ·unfold vat;rw [dif_neg hi];omega
  ·have hdr:d.rep.toNat<16:=by have:=hd.r0;have:=hd.r1;omega
   rw [Qb7 _ _ _ _ hdr,List.map_append,List.mem_append,← ih.2 d hd]
   split
   ·rename_i he
    have hrep:d.rep=o.dot.rep:=by have:=hd.r0;have:=h4.r0;omega
    constructor
    ·intro hle
     by_cases e:d.seq=o.dot.seq
     ·right
      have:d=o.dot:=by cases hdd:d;cases hoo:o.dot;rw [hdd,hoo] at hrep e;simp_all
      subst this;simp
     ·left;rw [he];omega
    ·rintro (g|g)
     ·rw [he] at g;omega
     ·simp at g;subst g;exact Int.le_refl _
   ·rename_i he
    constructor
    ·exact .inl
    ·rintro (g|g)
     ·exact g
     ·simp at g;subst g;exact absurd rfl he
theorem Seq.has {l:List Opn} (h:Seq l) {d:Dot} (hd:DotP d):QbD (Qbw l) d=true↔d∈l.map (·.dot):=by rw [Qei hd];exact h.known.2 d hd
def szero:Sta:=⟨vzero,[],[]⟩
def Qeh (s:Sta) (o:Opn):Sta :=
 ⟨vset s.known o.dot.rep.toNat o.dot.seq,(if QaX o=true then Qlv (Qdh o) (s.ents.filter fun e=>!Qay o (QaG e)) else s.ents.filter fun e=>!Qay o (QaG e)),QdP o.cart o.tick s.ticks⟩
def Qdf (l:List Opn):Sta:=l.foldl Qeh szero
theorem QdU (l:List Opn) (o:Opn):Qdf (l++[o])=Qeh (Qdf l) o:=by unfold Qdf;rw [List.foldl_append];rfl
theorem QcM (l:List Opn):(Qdf l).known=Qbw l:=by
 refine Qbe (motive:=fun l=>(Qdf l).known=Qbw l) rfl (fun l o ih=>?_) l
 rw [QdU,Qdw,← ih];rfl
theorem Seq.live_snoc {l:List Opn} {o:Opn} (h:Seq (l++[o])):(∀ x,Qbm (l++[o]) x=(Qbm l x&&!Qay o x))/\Qbm (l++[o]) o=QaX o:=by
 obtain ⟨h1,h2,h3,h4,h5,h6⟩:=h.cut
 refine ⟨fun x=>?_,?_⟩
 ·unfold Qbm;rw [List.any_append,List.any_cons,List.any_nil,Bool.or_false]
  cases QaX x<;>cases l.any (fun y=>Qay y x)<;>cases Qay o x<;>rfl
 ·unfold Qbm
  have:((l++[o]).any fun x=>Qay x o)=false:=by
   rw [List.any_eq_false]
   intro x hx he
   have hhas:QbD x.ctx o.dot=true:=by
    unfold Qay at he;simp only [Bool.and_eq_true,decide_eq_true_eq] at he;exact he.1.2
   rcases List.mem_append.1 hx with g|g
   ·
    have key:∀ {l:List Opn},Seq l->∀ x∈l,∀ d,DotP d->QbD x.ctx d=true->d∈l.map (·.dot):=by
     intro l hl
     induction hl with
     | nil=>intro x hx;cases hx
     | snoc _ _ _ _ _ g6 ih =>
      intro x hx d hd hh
      rw [List.map_append,List.mem_append]
      rcases List.mem_append.1 hx with q|q
      ·exact .inl (ih x q d hd hh)
      ·rw [List.mem_singleton.1 q] at hh;exact .inl (g6 d hd hh)
    exact h5 (key h1 x g o.dot h4 hhas)
   ·rw [List.mem_singleton.1 g] at hhas;exact h5 (h6 _ h4 hhas)
  rw [this];simp
theorem Seq.ents {l:List Opn} (h:Seq l):QiC (Qdf l).ents/\∀ e,e∈(Qdf l).ents↔∃ o∈l,Qbm l o=true/\e=Qdh o:=by
 induction h with
 | nil=>exact ⟨by simp [Qdf,szero,QiC],fun e=>by simp [Qdf,szero]⟩
 | @snoc l o h1 h2 h3 h4 h5 h6 ih =>
  have hl:=Seq.live_snoc (Seq.snoc h1 h2 h3 h4 h5 h6)
  rw [QdU]
  have hfR:QiC ((Qdf l).ents.filter fun e=>!Qay o (QaG e)):=List.Pairwise.sublist List.filter_sublist ih.1
  have hfm:∀ e,e∈((Qdf l).ents.filter fun e=>!Qay o (QaG e))↔∃ x∈l,Qbm (l++[o]) x=true/\e=Qdh x:=by
   intro e
   rw [List.mem_filter,ih.2]
   constructor
   ·rintro ⟨⟨x,hx,hlx,rfl⟩,hne⟩
    rw [Qi6] at hne
    exact ⟨x,hx,by rw [hl.1,hlx,hne];rfl,rfl⟩
   ·rintro ⟨x,hx,hlx,rfl⟩
    rw [hl.1,Bool.and_eq_true] at hlx
    exact ⟨⟨x,hx,hlx.1,rfl⟩,by rw [Qi6];exact hlx.2⟩
  show QiC (if QaX o=true then _ else _)/\∀ e,e∈(if QaX o=true then _ else _)↔_
  split
  ·rename_i hly
   refine ⟨Qiu hfR ?_,fun e=>?_⟩
   ·intro hm
    obtain ⟨e,he,hd⟩:=List.mem_map.1 hm
    obtain ⟨x,hx,_,rfl⟩:=(hfm e).1 he
    exact h5 (List.mem_map.2 ⟨x,hx,hd⟩)
   ·rw [QfL,hfm]
    constructor
    ·rintro (rfl|⟨x,hx,g⟩)
     ·exact ⟨o,by simp,by rw [hl.2,hly],rfl⟩
     ·exact ⟨x,by simp [hx],g⟩
    ·rintro ⟨x,hx,g⟩
     rcases List.mem_append.1 hx with q|q
     ·exact .inr ⟨x,q,g⟩
     ·rw [List.mem_singleton.1 q] at g;exact .inl g.2
  ·rename_i hly
   refine ⟨hfR,fun e=>?_⟩
   rw [hfm]
   constructor
   ·rintro ⟨x,hx,g⟩;exact ⟨x,by simp [hx],g⟩
   ·rintro ⟨x,hx,g⟩
    rcases List.mem_append.1 hx with q|q
    ·exact ⟨x,q,g⟩
    ·rw [List.mem_singleton.1 q,hl.2] at g;exact absurd g.1 hly
def tmax (l:List Opn) (c:Int):Option Int:=l.foldl (fun a o=>if o.cart=c then some (match a with|none=>o.tick|some u=>max u o.tick) else a) none
theorem Qfz (l:List Opn) (o:Opn) (c:Int):tmax (l++[o]) c=if o.cart=c then some (match tmax l c with|none=>o.tick|some u=>max u o.tick) else tmax l c:=by unfold tmax;rw [List.foldl_append];rfl
theorem Qc1 (l:List Opn):QdQ (Qdf l).ticks/\∀ c,QaL (Qdf l).ticks c=tmax l c:=by
 refine Qbe (motive:=fun l=>QdQ (Qdf l).ticks/\∀ c,QaL (Qdf l).ticks c=tmax l c) ⟨by simp [Qdf,szero,QdQ],fun c=>rfl⟩ (fun l o ih=>?_) l
 rw [QdU]
 refine ⟨Qie ih.1,fun c=>?_⟩
 show QaL (QdP _ _ _) c=_
 rw [Qc9 ih.1,Qfz,ih.2,ih.2]
 by_cases h:c=o.cart
 ·subst h;rw [if_pos rfl];first|done|(first|rw [if_pos rfl]|skip);first|done|(cases tmax l o.cart<;>rfl)
 ·rw [if_neg h,if_neg (fun e=>h e.symm)]
theorem Qdb (l:List Opn) (c:Int):(tmax l c=none/\∀ o∈l,o.cart≠c)∨∃ t,tmax l c=some t/\(∃ o∈l,o.cart=c/\o.tick=t)/\∀ o∈l,o.cart=c->o.tick<=t:=by
 refine Qbe (motive:=fun l=>(tmax l c=none/\∀ o∈l,o.cart≠c)∨∃ t,tmax l c=some t/\(∃ o∈l,o.cart=c/\o.tick=t)/\∀ o∈l,o.cart=c->o.tick<=t) (.inl ⟨rfl,fun o ho=>by cases ho⟩) (fun l a ih=>?_) l
 rw [Qfz]
 by_cases hc:a.cart=c
 ·right
  rw [if_pos hc]
  rcases ih with ⟨h1,h2⟩|⟨t,h1,⟨o,ho,h3,h4⟩,h5⟩
  ·refine ⟨a.tick,by rw [h1],⟨a,by simp,hc,rfl⟩,fun o ho hoc=>?_⟩
   rcases List.mem_append.1 ho with g|g
   ·exact absurd hoc (h2 o g)
   ·rw [List.mem_singleton.1 g];exact Int.le_refl _
  ·refine ⟨max t a.tick,by rw [h1],?_,fun o ho hoc=>?_⟩
   ·rcases Int.le_total t a.tick with g|g
    ·exact ⟨a,by simp,hc,by omega⟩
    ·exact ⟨o,by simp [ho],h3,by omega⟩
   ·rcases List.mem_append.1 ho with g|g
    ·have:=h5 o g hoc;omega
    ·rw [List.mem_singleton.1 g];omega
 ·rw [if_neg hc]
  rcases ih with ⟨h1,h2⟩|⟨t,h1,⟨o,ho,h3⟩,h5⟩
  ·refine .inl ⟨h1,fun o ho=>?_⟩
   rcases List.mem_append.1 ho with g|g
   ·exact h2 o g
   ·rw [List.mem_singleton.1 g];exact hc
  ·refine .inr ⟨t,h1,⟨o,by simp [ho],h3⟩,fun o ho hoc=>?_⟩
   rcases List.mem_append.1 ho with g|g
   ·exact h5 o g hoc
   ·rw [List.mem_singleton.1 g] at hoc;exact absurd hoc hc
end Go.Vx
namespace Go.Vx
theorem QeI {α β:Type} {f:α->β}:∀ {l:List α},(l.map f).Nodup->∀ x∈l,∀ y∈l,f x=f y->x=y
 | [],_,x,hx,_,_,_=>by cases hx
 | a :: l,h,x,hx,y,hy,e=>by
  rw [List.map_cons,List.nodup_cons] at h
  rcases List.mem_cons.1 hx with p|p<;>rcases List.mem_cons.1 hy with q|q
  ·rw [p,q]
  ·subst p;exact absurd (List.mem_map.2 ⟨y,q,e.symm⟩) h.1
  ·subst q;exact absurd (List.mem_map.2 ⟨x,p,e⟩) h.1
  ·exact QeI h.2 x p y q e
theorem Qnq {o:Opn} (h:QcJ o=true) (i:Nat):vat o.ctx i<=1048576:=by
 unfold QcJ at h
 simp only [Bool.and_eq_true,decide_eq_true_eq] at h
 have h1:=h.1.1.1.2
 unfold QaQ at h1
 simp only [Bool.and_eq_true,List.all_eq_true,List.mem_range] at h1
 by_cases hi:i<16
 ·have:=h1.2 i hi
  unfold QhI at this
  simp at this
  omega
 ·unfold vat;rw [dif_neg hi];omega
theorem QrO (f:Nat->Int) (b:Int) (h:∀ i,0<=f i/\f i<=b):∀ n:Nat,0<=((List.range n).map f).sum/\((List.range n).map f).sum<=(n:Int)*b
 | 0=>by simp
 | n+1=>by
  have ih:=QrO f b h n
  rw [List.range_succ,List.map_append,List.sum_append]
  have:=h n
  simp only [List.map_cons,List.map_nil,List.sum_cons,List.sum_nil]
  have e:((n+1:Nat):Int)*b=(n:Int)*b+b:=by rw [Int.natCast_add,Int.add_mul];simp
  omega
theorem QrP {o:Opn} (ho:QbL o) (h:QcJ o=true):1<=Qba o/\Qba o<=16777217:=by
 have hv:=ho.2.2.2.2.2.2
 have:=QrO (fun i=>vat o.ctx i) 1048576 (fun i=>⟨by
  unfold vat;split
  ·exact (hv _).1
  ·omega,Qnq h i⟩) 16
 unfold Qba vsum
 omega
theorem Qjd {o:Opn}:QaX o=true↔o.kind=1∨o.kind=2∨o.kind=4:=by unfold QaX;simp [or_assoc]
theorem QmZ {l:List Opn} {o:Opn} (h:Qbm l o=true):QaX o=true:=by unfold Qbm at h;rw [Bool.and_eq_true] at h;exact h.1
theorem Seq.right {l:List Opn} (h:Seq l):RightC (Qdf l):=by
 have hk:=h.known
 have he:=h.ents
 have ht:=Qc1 l
 have hd:=h.dots
 refine ⟨?_,ht.1,fun x hx=>?_,he.1,fun e hm=>?_,?_⟩
 ·rw [QcM]
  unfold QaQ
  simp only [Bool.and_eq_true,List.all_eq_true,List.mem_range]
  refine ⟨by decide,fun i hi=>?_⟩
  have:=hk.1 i
  unfold QhI;simp;omega
 ·rw [QeJ ht.1,ht.2] at hx
  rcases Qdb l x.cart with ⟨h1,_⟩|⟨t,h1,⟨o,ho,_,h3⟩,_⟩
  ·rw [h1] at hx;cases hx
  ·rw [h1] at hx;cases hx
   have:=(hd o ho).2.2
   unfold QcJ at this
   simp only [Bool.and_eq_true,decide_eq_true_eq] at this
   rw [← h3];exact this.1.2
 ·obtain ⟨o,ho,hl,rfl⟩:=(he.2 e).1 hm
  have hdo:=hd o ho
  have hc:=QrP hdo.2.1 hdo.2.2
  unfold Qlr
  simp only [Bool.and_eq_true,decide_eq_true_eq]
  refine ⟨⟨⟨⟨?_,?_⟩,?_⟩,hc.1⟩,hc.2⟩
  ·rw [ht.2]
   rcases Qdb l o.cart with ⟨_,h2⟩|⟨t,h1,_⟩
   ·exact absurd rfl (h2 o ho)
   ·show (tmax l o.cart).isSome=true
    rw [h1];rfl
  ·have hr:=hdo.2.2
   unfold QcJ at hr
   simp only [Bool.and_eq_true] at hr
   have hkk:=hr.2
   unfold Qci at hkk
   show Qdg (Qdh o)=true
   unfold Qdg Qdh
   rcases Qjd.1 (QmZ hl) with g|g|g
   ·simp [g] at hkk ⊢;exact hkk
   ·simp [g]
   ·simp [g] at hkk ⊢;exact hkk
  ·rw [QcM]
   exact (h.has hdo.1).2 (List.mem_map.2 ⟨o,ho,rfl⟩)
 ·have hmap:(Qdf l).ents.map (·.dot)=(Qdf l).ents.map (·.dot):=rfl
  have hnd:=h.nodup
  have hinj:∀ a∈(Qdf l).ents,∀ b∈(Qdf l).ents,a.dot=b.dot->a=b:=by
   intro a ha b hb e
   obtain ⟨o,ho,_,rfl⟩:=(he.2 a).1 ha
   obtain ⟨p,hp,_,rfl⟩:=(he.2 b).1 hb
   rw [QeI hnd o ho p hp e]
  unfold List.Nodup
  rw [List.pairwise_map]
  have hne:(Qdf l).ents.Pairwise (·≠·):=he.1.imp fun {a b} hab e=>by subst e;rw [Qb5] at hab;cases hab
  rw [List.pairwise_iff_getElem] at hne ⊢
  intro i j hi hj hij e
  exact hne i j hi hj hij (hinj _ (List.getElem_mem hi) _ (List.getElem_mem hj) e)
theorem Seq.ext {l m:List Opn} (hl:Seq l) (hm:Seq m) (h:∀ o,o∈l↔o∈m):Qdf l=Qdf m:=by
 have hdm:∀ d,d∈l.map (·.dot)↔d∈m.map (·.dot):=fun d=>by
  rw [List.mem_map,List.mem_map]
  constructor
  ·rintro ⟨o,ho,e⟩;exact ⟨o,(h o).1 ho,e⟩
  ·rintro ⟨o,ho,e⟩;exact ⟨o,(h o).2 ho,e⟩
 have hle:∀ {l m:List Opn},Seq l->Seq m->(∀ d,d∈l.map (·.dot)↔d∈m.map (·.dot))->∀ i,vat (Qbw l) i<=vat (Qbw m) i:=by
  intro l m hl hm hd i
  by_cases hi:i<16
  case neg=>unfold vat;rw [dif_neg hi,dif_neg hi];omega
  have b1:=hl.known.1 i
  have b2:=hm.known.1 i
  by_cases h0:vat (Qbw l) i=0
  ·omega
  ·have hdp:DotP ⟨(i:Int),vat (Qbw l) i⟩:=⟨by show (0:Int)<=(i:Int);omega,by show (i:Int)<16;omega,by show 1<=vat (Qbw l) i;omega,b1.2⟩
   have:=(hm.known.2 _ hdp).2 ((hd _).1 ((hl.known.2 _ hdp).1 (by show vat (Qbw l) i<=vat (Qbw l) ((i:Int)).toNat;rw [Int.toNat_natCast];exact Int.le_refl _)))
   simpa using this
 have e1:(Qdf l).known=(Qdf m).known:=by
  rw [QcM,QcM]
  exact Qg0 fun i _=>Int.le_antisymm (hle hl hm hdm i) (hle hm hl (fun d=>(hdm d).symm) i)
 have hlive:∀ o,Qbm l o=Qbm m o:=fun o=>by
  unfold Qbm
  have:(l.any fun x=>Qay x o)=(m.any fun x=>Qay x o):=by
   rw [Bool.eq_iff_iff,List.any_eq_true,List.any_eq_true]
   constructor
   ·rintro ⟨x,hx,e⟩;exact ⟨x,(h x).1 hx,e⟩
   ·rintro ⟨x,hx,e⟩;exact ⟨x,(h x).2 hx,e⟩
  rw [this]
 have e2:(Qdf l).ents=(Qdf m).ents:=Qo3 hl.ents.1 hm.ents.1 fun e=>by
  rw [hl.ents.2,hm.ents.2]
  constructor
  ·rintro ⟨o,ho,g,q⟩;exact ⟨o,(h o).1 ho,by rw [← hlive];exact g,q⟩
  ·rintro ⟨o,ho,g,q⟩;exact ⟨o,(h o).2 ho,by rw [hlive];exact g,q⟩
 have e3:(Qdf l).ticks=(Qdf m).ticks:=Qkt (Qc1 l).1 (Qc1 m).1 fun c=>by
  rw [(Qc1 l).2,(Qc1 m).2]
  rcases Qdb l c with ⟨h1,h2⟩|⟨t,h1,⟨o,ho,h3,h4⟩,h5⟩<;>rcases Qdb m c with ⟨g1,g2⟩|⟨u,g1,⟨p,hp,g3,g4⟩,g5⟩
  ·rw [h1,g1]
  ·exact absurd g3 (h2 p ((h p).2 hp))
  ·exact absurd h3 (g2 o ((h o).1 ho))
  ·rw [h1,g1]
   have:=h5 p ((h p).2 hp) g3
   have:=g5 o ((h o).1 ho) h3
   congr 1;omega
 cases hx:Qdf l;cases hy:Qdf m
 rw [hx,hy] at e1 e2 e3
 simp at e1 e2 e3
 rw [e1,e2,e3]
def vjoin (a b:Vec):Vec:=fun i=>max (a i) (b i)
theorem Qkw (a b:Vec) (i:Nat):vat (vjoin a b) i=max (vat a i) (vat b i):=by
 unfold vat vjoin;split<;>simp
def Qxf (b:Sta) (x:Cen):Bool:=(b.ents.any fun e=>decide (e.dot=x.dot))||!QbD b.known x.dot
def QxT (a:Sta) (x:Cen):Bool:=!(a.ents.any fun e=>decide (e.dot=x.dot))&&!QbD a.known x.dot
def QdD (l:List Cen):List Cen:=l.foldl (fun m e=>Qlv e m) []
def Qu8 (s t:List Lst):List Lst:=t.foldl (fun m x=>QdP x.cart x.tick m) s
def Quh (a b:Sta):Sta:=⟨vjoin a.known b.known,QdD (a.ents.filter (Qxf b)++b.ents.filter (QxT a)),Qu8 a.ticks b.ticks⟩
theorem QgO (l:List Cen) (e:Cen):QdD (l++[e])=Qlv e (QdD l):=by unfold QdD;rw [List.foldl_append];rfl
theorem Qfd (l:List Cen):(l.map (·.dot)).Nodup->QiC (QdD l)/\∀ x,x∈QdD l↔x∈l:=by
 refine Qbe (motive:=fun l=>(l.map (·.dot)).Nodup->QiC (QdD l)/\∀ x,x∈QdD l↔x∈l) (fun _=>⟨by simp [QdD,QiC],fun x=>by simp [QdD]⟩) (fun l e ih=>?_) l
 intro h
 rw [List.map_append,List.nodup_append] at h
 have ih:=ih h.1
 rw [QgO]
 refine ⟨Qiu ih.1 fun hm=>?_,fun x=>?_⟩
 ·obtain ⟨y,hy,e1⟩:=List.mem_map.1 hm
  exact h.2.2 _ (List.mem_map.2 ⟨y,(ih.2 y).1 hy,e1⟩) e.dot (by simp) rfl
 ·rw [QfL,ih.2,List.mem_append,List.mem_singleton];exact Or.comm
end Go.Vx
namespace Go.Vx
theorem Qjk {o:Opn} (ho:QbL o) (h:QcJ o=true):DotP o.dot:=by
 unfold QcJ at h
 simp only [Bool.and_eq_true,decide_eq_true_eq] at h
 have h1:=h.1.1.1.1.1
 have h2:=QaS h.1.1.1.1.2
 exact ⟨ho.1.1.1,h1,h2.2.1,h2.2.2⟩
theorem Qmr {a b:Vec} (h:vle a b=true) (i:Nat):vat a i<=vat b i:=by
 unfold vle at h
 rw [List.all_eq_true] at h
 by_cases hi:i<16
 ·simpa using h i (List.mem_range.2 hi)
 ·unfold vat;rw [dif_neg hi,dif_neg hi];exact Int.le_refl _
theorem QeN {known:Vec} {o:Opn} (h:QbM known o=0):QcJ o=true/\QbD known o.dot=false/\vle o.ctx known=true:=by
 unfold QbM at h
 split at h
 ·omega
 ·split at h
  ·omega
  ·split at h
   ·omega
   ·rename_i h1 h2 h3
    simp at h1 h2 h3
    exact ⟨h1,h2,h3⟩
theorem Seq.add {l:List Opn} {o:Opn} (h:Seq l) (ho:QbL o) (hr:QbM (Qbw l) o=0):Seq (l++[o]):=by
 obtain ⟨h1,h2,h3⟩:=QeN hr
 have hd:=Qjk ho h1
 refine Seq.snoc h ho h1 hd (fun hm=>?_) fun d hdp hh=>?_
 ·rw [(h.has hd).2 hm] at h2;cases h2
 ·refine (h.has hdp).1 ((Qei hdp).2 (Int.le_trans ((Qei hdp).1 hh) (Qmr h3 _)))
theorem Seq.ready {l:List Opn} {o:Opn} (h:Seq (l++[o])):QbM (Qbw l) o=0:=by
 obtain ⟨h1,h2,h3,h4,h5,h6⟩:=h.cut
 unfold QbM
 rw [if_neg (by rw [h3];decide),if_neg (fun g=>h5 ((h1.has h4).1 g)),if_neg]
 rw [Bool.not_eq_false]
 refine Qki fun j hj=>?_
 have hb:=Qnq h3 j
 have h0:=(h1.known.1 j).1
 by_cases hz:vat o.ctx j<1
 ·omega
 ·have hdp:DotP ⟨(j:Int),vat o.ctx j⟩:=⟨by show (0:Int)<=(j:Int);omega,by show (j:Int)<16;omega,by show 1<=vat o.ctx j;omega,hb⟩
  have:=(h1.known.2 _ hdp).2 (h6 _ hdp ((Qei hdp).2 (by show vat o.ctx j<=vat o.ctx ((j:Int)).toNat;rw [Int.toNat_natCast];exact Int.le_refl _)))
  simpa using this
theorem QvK {l:List Opn} (hl:∀ o∈l,QbL o) (h:∀ k,k<l.length->QbM (Qbw (l.take k)) (gd l k)=0):Seq l:=by
 have key:∀ k,k<=l.length->Seq (l.take k):=by
  intro k
  induction k with
  | zero=>intro _;exact Seq.nil
  | succ k ih =>
   intro hk
   rw [Qd8 (by omega)]
   exact (ih (by omega)).add (hl _ (Qbo (by omega))) (h k (by omega))
 have:=key l.length (Nat.le_refl _)
 rwa [List.take_length] at this
def Down (l:List Opn) (p:Opn->Bool):Prop:=∀ o∈l,p o=true->∀ d,DotP d->QbD o.ctx d=true->∃ q∈l,p q=true/\q.dot=d
theorem Seq.sub {l:List Opn} {p:Opn->Bool} (h:Seq l) (hp:Down l p):Seq (l.filter p):=by
 have key:∀ m:List Opn,Seq m->(∀ o∈m,o∈l)->Seq (m.filter p):=by
  intro m hm
  induction hm with
  | nil=>intro _;exact Seq.nil
  | @snoc m o h1 h2 h3 h4 h5 h6 ih =>
   intro hin
   have ih:=ih fun x hx=>hin x (List.mem_append_left _ hx)
   rw [List.filter_append]
   by_cases hpo:p o=true
   ·rw [List.filter_cons_of_pos hpo,List.filter_nil]
    refine Seq.snoc ih h2 h3 h4 (fun g=>h5 ?_) fun d hd hh=>?_
    ·obtain ⟨x,hx,e⟩:=List.mem_map.1 g
     exact List.mem_map.2 ⟨x,(List.mem_filter.1 hx).1,e⟩
    ·obtain ⟨x,hx,e⟩:=List.mem_map.1 (h6 d hd hh)
     obtain ⟨q,hq,hpq,eq⟩:=hp o (hin o (by simp)) hpo d hd hh
     have:=QeI h.nodup x (hin x (List.mem_append_left _ hx)) q hq (e.trans eq.symm)
     subst this
     exact List.mem_map.2 ⟨x,List.mem_filter.2 ⟨hx,hpq⟩,e⟩
   ·rw [List.filter_cons_of_neg hpo,List.filter_nil,List.append_nil];exact ih
 exact key l h fun _ h=>h
theorem Qmb {l:List Opn} {v:Vec} (hc:IsClosed (Qaq l v)):Down l fun o=>QbD v o.dot:=by
 intro o ho h d hd hh
 have hr:d.rep.toNat<16:=by have:=hd.r0;have:=hd.r1;omega
 have hk:=hc.known o (List.mem_filter.2 ⟨ho,h⟩) d.rep.toNat hr (d.seq-1).toNat (by
  have:=(Qei hd).1 hh;have:=hd.s0;have:=hd.s1
  omega)
 have e:(⟨((d.rep.toNat:Nat):Int),(((d.seq-1).toNat+1:Nat):Int)⟩:Dot)=d:=by
  have:=hd.r0;have:=hd.s0
  cases d;simp at *;omega
 rw [e] at hk
 obtain ⟨q,hq,eq⟩:=List.mem_map.1 hk
 exact ⟨q,(List.mem_filter.1 hq).1,(List.mem_filter.1 hq).2,eq⟩
end Go.Vx
namespace Go.Vx
def Qex (a b:Cen):Bool:=if a.count=b.count then (if a.dot.rep=b.dot.rep then decide (a.dot.seq<b.dot.seq) else decide (a.dot.rep<b.dot.rep)) else decide (a.count<b.count)
theorem Qdt (a b:Cen):Qex a b=true↔(a.count<b.count∨(a.count=b.count/\(a.dot.rep<b.dot.rep∨(a.dot.rep=b.dot.rep/\a.dot.seq<b.dot.seq)))):=by
 unfold Qex
 split
 ·split
  ·rw [decide_eq_true_iff];omega
  ·rw [decide_eq_true_iff];omega
 ·rw [decide_eq_true_iff];omega
theorem QgN (a b:Opn):Qex (Qdh a) (Qdh b)=Qc7 a b:=by
 rw [Bool.eq_iff_iff,Qdt,Qfp];rfl
def QdW (l:List Cen):Option Cen:=l.foldl (fun b x=>match b with|none=>some x|some y=>if Qex y x=true then some x else some y) none
theorem QdS (l:List Cen) (x:Cen):QdW (l++[x])=match QdW l with|none=>some x|some y=>if Qex y x=true then some x else some y:=by unfold QdW;rw [List.foldl_append];rfl
theorem Qhp (l:List Cen):(l=[]/\QdW l=none)∨∃ e∈l,QdW l=some e/\∀ x∈l,Qex e x=false:=by
 refine Qbe (motive:=fun l=>(l=[]/\QdW l=none)∨∃ e∈l,QdW l=some e/\∀ x∈l,Qex e x=false) (.inl ⟨rfl,rfl⟩) (fun l a ih=>?_) l
 right
 rw [QdS]
 have irr:Qex a a=false:=by rw [Bool.eq_false_iff,ne_eq,Qdt];omega
 rcases ih with ⟨h1,h2⟩|⟨e,he,h2,h3⟩
 ·rw [h2];subst h1
  exact ⟨a,by simp,rfl,fun x hx=>by simp at hx;subst hx;exact irr⟩
 ·rw [h2]
  dsimp only
  split
  ·rename_i hl
   refine ⟨a,by simp,rfl,fun x hx=>?_⟩
   rcases List.mem_append.1 hx with g|g
   ·have:=h3 x g
    rw [Bool.eq_false_iff,ne_eq,Qdt] at this ⊢
    rw [Qdt] at hl;omega
   ·rw [List.mem_singleton.1 g];exact irr
  ·rename_i hl
   refine ⟨e,by simp [he],rfl,fun x hx=>?_⟩
   rcases List.mem_append.1 hx with g|g
   ·exact h3 x g
   ·rw [List.mem_singleton.1 g];simpa using hl
theorem QpW {l m:List Cen} (hn:(l.map (·.dot)).Nodup) (h:∀ x,x∈l↔x∈m):QdW l=QdW m:=by
 rcases Qhp l with ⟨h1,h2⟩|⟨e,he,h2,h3⟩
 ·subst h1
  have:m=[]:=List.eq_nil_iff_forall_not_mem.2 fun x hx=>by have:=(h x).2 hx;cases this
  rw [this]
 ·rcases Qhp m with ⟨g1,_⟩|⟨f,hf,g2,g3⟩
  ·subst g1;have:=(h e).1 he;cases this
  ·rw [h2,g2]
   have a1:=h3 f ((h f).2 hf)
   have a2:=g3 e ((h e).1 he)
   rw [Bool.eq_false_iff,ne_eq,Qdt] at a1 a2
   have hd:e.dot=f.dot:=by
    cases hx:e.dot;cases hy:f.dot
    rw [hx,hy] at a1 a2
    dsimp only at a1 a2
    simp only [Dot.mk.injEq];omega
   rw [QeI hn e he f ((h f).2 hf) hd]
def Qeb (s:Sta) (c n:Int):List Cen:=s.ents.filter fun e=>decide (e.cart=c)&&(decide (e.item=n)&&!decide (e.kind=4))
def Qfy (l:List Cen):Int:=l.foldl (fun a e=>if e.kind=1 then (a+e.qty)%4294967296 else a) 0
def Qeg (l:List Cen):Int:=(Qfy l+(match QdW (l.filter fun e=>!decide (e.kind=1)) with|none=>0|some e=>e.qty))%4294967296
def QdI (s:Sta) (c:Int):List Int:=(s.ents.filter fun e=>decide (e.cart=c)&&!decide (e.kind=4)).map (·.item)
def Qen (l:List Int):List Int:=QaO (l.foldl (fun m x=>if x∈m then m else m++[x]) [])
theorem QdO (l:List Int):(Qen l).Pairwise (· < ·)/\∀ x,x∈Qen l↔x∈l:=by
 have key:∀ l:List Int,(l.foldl (fun m x=>if x∈m then m else m++[x]) []).Nodup/\∀ x,x∈(l.foldl (fun m x=>if x∈m then m else m++[x]) ([]:List Int))↔x∈l:=by
  refine Qbe ⟨by simp,fun x=>by simp⟩ fun l a ih=>?_
  rw [List.foldl_append]
  show (if a∈_ then _ else _:List Int).Nodup/\∀ x,x∈(if a∈_ then _ else _:List Int)↔_
  split
  ·rename_i ha
   refine ⟨ih.1,fun x=>?_⟩
   rw [ih.2,List.mem_append,List.mem_singleton]
   constructor
   ·exact .inl
   ·rintro (g|g)
    ·exact g
    ·subst g;exact (ih.2 x).1 ha
  ·rename_i ha
   refine ⟨?_,fun x=>by rw [List.mem_append,ih.2,List.mem_append]⟩
   rw [List.nodup_append]
   exact ⟨ih.1,by simp,fun x hx y hy e=>by simp at hy;subst hy;subst e;exact ha hx⟩
 refine ⟨Qet (key l).1,fun x=>?_⟩
 unfold Qen
 rw [Qfg];exact (key l).2 x
def QgM (s:Sta) (c:Int):Vw :=
 ⟨c,(Qen (QdI s c)).map fun n=>⟨n,Qeg (Qeb s c n)⟩,s.ents.any fun e=>decide (e.cart=c)&&decide (e.kind=4),(QaL s.ticks c).getD 0⟩
def QaM (s:Sta) (c:Int) (r:Bool):Vw:=if r=true then QgM s c else ⟨c,[],false,0⟩
end Go.Vx
namespace Go.Vx
def Qt6 (a:Int) (e:Cen):Int:=if e.kind=1 then (a+e.qty)%4294967296 else a
theorem QoD {l m:List Cen} (hp:l.Perm m):∀ a,l.foldl Qt6 a=m.foldl Qt6 a:=by
 induction hp with
 | nil=>exact fun _=>rfl
 | cons x _ ih=>exact fun a=>ih _
 | swap x y l =>
  intro a
  simp only [List.foldl_cons]
  congr 1
  unfold Qt6
  split<;>split<;>omega
 | trans _ _ ih1 ih2=>exact fun a=>(ih1 a).trans (ih2 a)
theorem Qge {α β:Type} {f:α->β} {l:List α} (h:(l.map f).Nodup):l.Nodup:=by
 unfold List.Nodup at *
 rw [List.pairwise_map] at h
 exact h.imp fun hab e=>hab (by rw [e])
theorem Qit {l m:List Cen} (hl:(l.map (·.dot)).Nodup) (hm:(m.map (·.dot)).Nodup) (h:∀ x,x∈l↔x∈m):Qeg l=Qeg m:=by
 have hp:l.Perm m:=(List.perm_ext_iff_of_nodup (Qge hl) (Qge hm)).2 h
 unfold Qeg
 rw [show Qfy l=Qfy m from QoD hp 0]
 rw [QpW (l:=l.filter fun e=>!decide (e.kind=1)) (m:=m.filter fun e=>!decide (e.kind=1)) (hl.sublist (List.filter_sublist.map _)) fun x=>by rw [List.mem_filter,List.mem_filter,h]]
theorem Qn0 (l:List Opn):let t:=l.foldl QcT tz;t.sum=Qfy (l.map Qdh)/\(match QdW ((l.map Qdh).filter fun e=>!decide (e.kind=1)) with|none=>t.has=false/\t.set.qty=0|some e=>t.has=true/\e=Qdh t.set):=by
 refine Qbe (motive:=fun l=>let t:=l.foldl QcT tz;t.sum=Qfy (l.map Qdh)/\(match QdW ((l.map Qdh).filter fun e=>!decide (e.kind=1)) with|none=>t.has=false/\t.set.qty=0|some e=>t.has=true/\e=Qdh t.set)) ⟨rfl,rfl,rfl⟩ (fun l o ih=>?_) l
 dsimp only at ih ⊢
 obtain ⟨t,ht⟩:∃ t,t=l.foldl QcT tz:=⟨_,rfl⟩
 rw [← ht] at ih
 rw [List.foldl_append,← ht,show List.foldl QcT t [o]=QcT t o from rfl]
 rw [List.map_append,List.filter_append,List.map_singleton]
 have hs:Qfy (l.map Qdh++[Qdh o])=Qt6 (Qfy (l.map Qdh)) (Qdh o):=by unfold Qfy;rw [List.foldl_append];rfl
 rw [hs]
 by_cases hk:o.kind=1
 ·have hf:List.filter (fun e:Cen=>!decide (e.kind=1)) [Qdh o]=[]:=by rw [List.filter_cons_of_neg (by simp [Qdh,hk])];rfl
  rw [hf,List.append_nil]
  unfold QcT Qt6
  rw [if_pos hk,if_pos (show (Qdh o).kind=1 from hk)]
  exact ⟨by rw [ih.1];rfl,ih.2⟩
 ·have hf:List.filter (fun e:Cen=>!decide (e.kind=1)) [Qdh o]=[Qdh o]:=by rw [List.filter_cons_of_pos (by simp [Qdh,hk])];rfl
  rw [hf,QdS]
  unfold QcT Qt6
  rw [if_neg hk,if_neg (show ¬(Qdh o).kind=1 from hk)]
  cases hb:QdW ((l.map Qdh).filter fun e=>!decide (e.kind=1)) with
  | none =>
   rw [hb] at ih
   rw [ih.2.1]
   exact ⟨ih.1,rfl,rfl⟩
  | some y =>
   rw [hb] at ih
   dsimp only at ih ⊢
   rw [ih.2.1,ih.2.2,QgN]
   by_cases hl:Qc7 t.set o=true
   ·rw [if_pos hl]
    simp only [hl,Bool.or_true,if_true]
    exact ⟨ih.1,trivial,trivial⟩
   ·rw [if_neg hl]
    have:(!true||Qc7 t.set o)=false:=by simpa using hl
    rw [if_neg (by rw [this];decide)]
    exact ⟨ih.1,ih.2.1,rfl⟩
theorem QoO (l:List Opn):Qu1 (l.foldl QcT tz)=Qeg (l.map Qdh):=by
 have h:=Qn0 l
 dsimp only at h
 unfold Qu1 Qeg
 rw [h.1]
 cases hb:QdW ((l.map Qdh).filter fun e=>!decide (e.kind=1)) with
 | none=>rw [hb] at h;rw [h.2.2]
 | some e=>rw [hb] at h;rw [h.2.2];rfl
def Qhm (L:List Opn) (c n:Int) (l:List Opn):List Opn:=l.filter fun o=>decide (o.cart=c)&&(Qbm L o&&(!decide (o.kind=4)&&decide (o.item=n)))
theorem QhF (L:List Opn) (c n:Int) (l:List Opn):(mget n (vfold L c l).items).getD tz=(Qhm L c n l).foldl QcT tz/\((mget n (vfold L c l).items).isSome=true↔Qhm L c n l≠[]):=by
 refine Qbe (motive:=fun l=>(mget n (vfold L c l).items).getD tz=(Qhm L c n l).foldl QcT tz/\((mget n (vfold L c l).items).isSome=true↔Qhm L c n l≠[])) ⟨rfl,by simp [vfold,mget,Qhm]⟩ (fun l o ih=>?_) l
 rw [QeL]
 have happ:Qhm L c n (l++[o])=Qhm L c n l++(if o.cart=c/\Qbm L o=true/\¬o.kind=4/\o.item=n then [o] else []):=by
  unfold Qhm
  rw [List.filter_append]
  congr 1
  split
  ·rename_i h;rw [List.filter_cons_of_pos (by simp [h.1,h.2.1,h.2.2.1,h.2.2.2])];rfl
  ·rename_i h;rw [List.filter_cons_of_neg (by simp;intro a b d;exact fun e=>h ⟨a,b,d,e⟩)];rfl
 rw [happ]
 unfold vstep
 by_cases h1:o.cart=c
 ·rw [if_pos h1]
  by_cases h2:Qbm L o=true
  ·rw [if_pos h2]
   by_cases h3:o.kind=4
   ·rw [if_pos h3,if_neg (fun h=>h.2.2.1 h3),List.append_nil];exact ih
   ·rw [if_neg h3]
    show (mget n (mput _ _ _)).getD tz=_/\((mget n (mput _ _ _)).isSome=true↔_)
    rw [Qdn]
    by_cases h4:n=o.item
    ·subst h4
     rw [if_pos rfl,if_pos ⟨h1,h2,h3,rfl⟩,List.foldl_append,← ih.1]
     exact ⟨rfl,by simp⟩
    ·rw [if_neg h4,if_neg (fun h=>h4 h.2.2.2.symm),List.append_nil];exact ih
  ·rw [if_neg h2,if_neg (fun h=>h2 h.2.1),List.append_nil];exact ih
 ·rw [if_neg h1,if_neg (fun h=>h1 h.1),List.append_nil];exact ih
theorem Qos (L:List Opn) (c:Int) (l:List Opn):(vfold L c l).out=l.any fun o=>decide (o.cart=c)&&(Qbm L o&&decide (o.kind=4)):=by
 refine Qbe (motive:=fun l=>(vfold L c l).out=l.any fun o=>decide (o.cart=c)&&(Qbm L o&&decide (o.kind=4))) rfl (fun l o ih=>?_) l
 rw [QeL,List.any_append,← ih]
 unfold vstep
 by_cases h1:o.cart=c
 ·rw [if_pos h1]
  by_cases h2:Qbm L o=true
  ·rw [if_pos h2]
   by_cases h3:o.kind=4
   ·rw [if_pos h3];simp [h1,h2,h3]
   ·rw [if_neg h3];simp [h3]
  ·rw [if_neg h2];simp [h2]
 ·rw [if_neg h1];simp [h1]
theorem Qms (l:List Opn) (c:Int) (hl:∀ o∈l,0<=o.tick):(vfold l c l).tick=(tmax l c).getD 0:=by
 have h1:=Ql0 l c l
 rcases Qdb l c with ⟨g1,g2⟩|⟨t,g1,⟨o,ho,g3,g4⟩,g5⟩
 ·rw [g1]
  rcases h1.2 with h|⟨o,ho,hc,_⟩
  ·exact h
  ·exact absurd hc (g2 o ho)
 ·rw [g1]
  show _=t
  have a1:=h1.1 o ho g3
  rcases h1.2 with h|⟨p,hp,hc,hq⟩
  ·have:=hl o ho;omega
  ·have:=g5 p hp hc;omega
end Go.Vx
namespace Go.Vx
theorem Qo1:∀ (n:Nat) (f:Nat->Int) (i:Nat) (x:Int),((List.range n).map fun j=>if j=i then x else f j).sum=((List.range n).map f).sum+(if i<n then x-f i else 0)
 | 0,_,_,_=>by simp
 | n+1,f,i,x=>by
  rw [List.range_succ,List.map_append,List.sum_append,List.map_append,List.sum_append,Qo1 n f i x]
  simp only [List.map_cons,List.map_nil,List.sum_cons,List.sum_nil]
  by_cases h:n=i
  ·subst h;simp;omega
  ·rw [if_neg h]
   by_cases h2:i<n
   ·rw [if_pos h2,if_pos (by omega)];omega
   ·rw [if_neg h2,if_neg (by omega)];omega
theorem Qro {v:Vec} {i:Nat} {x:Int} (hi:i<16):vsum (vset v i x)=vsum v+(x-vat v i):=by
 unfold vsum
 have e:(List.range 16).map (fun j=>vat (vset v i x) j)=(List.range 16).map fun j=>if j=i then x else vat v j:=by
  refine List.map_congr_left fun j hj=>?_
  rw [Qb7 _ _ _ _ (List.mem_range.1 hj)]
 rw [e,Qo1,if_pos hi]
theorem Seq.next {l:List Opn} {o:Opn} (h:Seq (l++[o])):vat (Qbw l) o.dot.rep.toNat=o.dot.seq-1:=by
 obtain ⟨h1,h2,h3,h4,h5,h6⟩:=h.cut
 have hctx:vat o.ctx o.dot.rep.toNat=o.dot.seq-1:=by
  unfold QcJ at h3;simp only [Bool.and_eq_true,decide_eq_true_eq] at h3;exact h3.1.1.2
 have hlt:¬o.dot.seq<=vat (Qbw l) o.dot.rep.toNat:=fun g=>h5 ((h1.known.2 o.dot h4).1 g)
 have h0:=(h1.known.1 o.dot.rep.toNat).1
 by_cases hz:o.dot.seq=1
 ·omega
 ·have hd:DotP ⟨o.dot.rep,o.dot.seq-1⟩:=⟨h4.r0,h4.r1,by have:=h4.s0;show 1<=o.dot.seq-1;omega,by have:=h4.s1;show o.dot.seq-1<=_;omega⟩
  have:=(h1.known.2 _ hd).2 (h6 _ hd ((Qei hd).2 (by show o.dot.seq-1<=vat o.ctx o.dot.rep.toNat;omega)))
  have:o.dot.seq-1<=vat (Qbw l) o.dot.rep.toNat:=this
  omega
theorem Seq.sum {l:List Opn} (h:Seq l):vsum (Qbw l)=l.length:=by
 induction h with
 | nil=>rfl
 | @snoc l o h1 h2 h3 h4 h5 h6 ih =>
  have hn:=Seq.next (Seq.snoc h1 h2 h3 h4 h5 h6)
  have hr:o.dot.rep.toNat<16:=by have:=h4.r0;have:=h4.r1;omega
  rw [Qdw,Qro hr,ih,hn,QQ7,List.length_singleton]
  omega
end Go.Vx
namespace Go.Vx
def Qgj (a b:Vec) (k:Nat):Vec:=fun i=>if i.val<k then max (a i) (b i) else a i
theorem Qsg (a b:Vec):Qgj a b 0=a:=by funext i;simp [Qgj]
theorem Qrc (a b:Vec):Qgj a b 16=vjoin a b:=by
 funext i
 have:=i.isLt
 simp [Qgj,vjoin]
theorem Qrj {a b:Vec} {k:Nat}:vat (Qgj a b k) k=vat a k:=by
 unfold vat Qgj
 split
 ·simp
 ·rfl
theorem Qlw {a b:Vec} {k:Nat} (hk:k<16):vset (Qgj a b k) k (max (vat (Qgj a b k) k) (vat b k))=Qgj a b (k+1):=by
 refine Qg0 fun j hj=>?_
 rw [Qb7 _ _ _ _ hj]
 split
 ·rename_i e
  subst e
  rw [Qrj]
  unfold vat Qgj
  simp only [hj,dite_true]
  rw [if_pos (by omega)]
 ·rename_i e
  unfold vat Qgj
  simp only [hj,dite_true]
  by_cases h:j<k
  ·rw [if_pos h,if_pos (by omega)]
  ·rw [if_neg h,if_neg (by omega)]
theorem Qtw (a b:Vec):decide (vjoin a b=b)=vle a b:=by
 by_cases h:vle a b=true
 ·rw [h]
  refine QQ3 (Qg0 fun j hj=>?_)
  rw [Qkw]
  have:=Qmr h j
  omega
 ·rw [Bool.not_eq_true] at h
  rw [h]
  refine QQ4 fun e=>?_
  have:vle a b=true:=Qki fun j _=>by
   have h2:=Qkw a b j
   rw [e] at h2;omega
  rw [this] at h;cases h
def Qbh (o:Opn) (n:Int):Bool:=decide (o.dot.rep<n)&&QbQ o.dot&&QaQ o.ctx n&&decide (vat o.ctx o.dot.rep.toNat=o.dot.seq-1)&&decide (o.tick<=1073741824)&&Qci o
theorem Qcc (o:Opn):Qbh o 16=QcJ o:=rfl
theorem Qii {v:Vec} {n:Int} (h:QaQ v n=true):1<=n/\n<=16:=by
 unfold QaQ at h
 simp only [Bool.and_eq_true,Bool.not_eq_true',Bool.or_eq_false_iff,decide_eq_false_iff_not] at h
 omega
theorem Qrl {o:Opn} {n:Int} (h:(((!QaQ o.ctx n||decide (n<=o.dot.rep))||decide (1073741824<o.tick))||!Qci o)=true):Qbh o n=false:=by
 unfold Qbh
 simp only [Bool.or_eq_true,Bool.not_eq_true',decide_eq_true_eq] at h
 rcases h with ((h|h)|h)|h
 ·rw [h];simp
 ·rw [QQ4 (by omega:¬o.dot.rep<n)];simp
 ·rw [QQ4 (by omega:¬o.tick<=1073741824)];simp
 ·rw [h];simp
theorem QpS {o:Opn} {n:Int} (h1:QaQ o.ctx n=true) (h2:¬n<=o.dot.rep) (h3:¬1073741824<o.tick) (h4:Qci o=true) :
  Qbh o n=(decide (1<=o.dot.seq)&&decide (o.dot.seq<=1048576)&&decide (vat o.ctx o.dot.rep.toNat=o.dot.seq-1)):=by
 have:=Qii h1
 unfold Qbh QbQ
 rw [h1,h4,QQ3 (by omega:o.dot.rep<n),QQ3 (by omega:o.tick<=1073741824),QQ3 (by omega:o.dot.rep<16)]
 simp
theorem Qnu {o:Opn} {n:Int} (h:((((decide (n<1)||decide (16<n))||decide (n<=o.dot.rep))||!QbQ o.dot)||!QaQ o.ctx n)=true):Qbh o n=false:=by
 unfold Qbh
 simp only [Bool.or_eq_true,Bool.not_eq_true',decide_eq_true_eq] at h
 rcases h with (((h|h)|h)|h)|h
 ·rw [Qf0 (by simp [h])];simp
 ·rw [Qf0 (by simp [h])];simp
 ·rw [QQ4 (by omega:¬o.dot.rep<n)];simp
 ·rw [h];simp
 ·rw [h];simp
theorem Qna {o:Opn} {n:Int} (h2:¬n<=o.dot.rep) (h3:QbQ o.dot=true) (h1:QaQ o.ctx n=true) :
  Qbh o n=(decide (vat o.ctx o.dot.rep.toNat=o.dot.seq-1)&&decide (o.tick<=1073741824)&&Qci o):=by
 unfold Qbh
 rw [h1,h3,QQ3 (by omega:o.dot.rep<n)]
 simp
end Go.Vx
namespace Go.Vx
theorem Qrs {o:Opn} {i:Int} (h0:0<=i) (h:i<16):(oc o)[0+7+i.toNat]?=some (.int .u32 (vat o.ctx i.toNat)):=by
 rw [show 0+7+i.toNat=7+i.toNat by omega]
 exact QuA (by omega)
end Go.Vx
namespace Go.Vx
theorem Qdo {p:Nat->Bool} {k:Nat} (h:∀ j:Nat,j<k->p j=false) (hk:p k=false):∀ j:Nat,j<k+1->p j=false:=by
 intro j hj
 by_cases e:j=k
 ·subst e;exact hk
 ·exact h j (by omega)
end Go.Vx
namespace Go.Vx
open Go.RowKit Go.ChangeShapes Go.WideShapes Go.ChangeAt
def QfF (P:Program) (t:TypeId) {α:Type} (en:α->List Value) (ok:α->Prop):Prop :=
 ∀ (H:Type) (enc:TypeId × Value->H) (w:World) (base:Nat) (spare:Nat->Bool) (held:Bool) (fuel:Nat) (cs:List Value) (x:DataW H × List MemPlace),DataW.trod enc P w base spare held fuel t cs=some x->∃ a,ok a/\cs=en a
def inK (k:IntKind) (a:Int):Prop:=(Lit.int k a).wf=true
theorem QjP {a:Int} (h:inK .u32 a):0<=a/\a<4294967296:=by
 unfold inK at h
 simp [Lit.wf,IntKind.min,IntKind.max,IntKind.signed,IntKind.bits] at h
 omega
theorem QjJ {a:Int} (h:inK .u16 a):0<=a/\a<65536:=by
 unfold inK at h
 simp [Lit.wf,IntKind.min,IntKind.max,IntKind.signed,IntKind.bits] at h
 omega
theorem QrS {a:Int} (h:inK .u8 a):0<=a/\a<256:=by
 unfold inK at h
 simp [Lit.wf,IntKind.min,IntKind.max,IntKind.signed,IntKind.bits] at h
 omega
theorem QiE {P:Program} {t:TypeId} {k:IntKind} (ht:P.underlying t=some (.int k)):QfF P t (ic k) (inK k):=by
 intro H enc w base spare held fuel cs x h
 obtain ⟨n,h1,_,h2⟩:=DataW.trod_int ht h
 exact ⟨n,h2,h1⟩
theorem Qx0 {P:Program} {t el:TypeId} (ht:P.underlying t=some (.array 16 el)) (he:P.underlying el=some (.int .u32)) (hc:P.cellsOf el=1) (hct:P.cellsOf t=16):QfF P t vc QbH:=by
 intro H enc w base spare held fuel cs x h
 obtain ⟨xs,m,_,_,hl,hxl,hx⟩:=DataW.trod_array ht h
 rw [hct] at hl
 have each:∀ i,i<16->∃ a,inK .u32 a/\cs[i]?=some (.int .u32 a):=by
  intro i hi
  have h1:=hx i hi
  rw [hc,List.getElem?_eq_getElem (by omega)] at h1
  obtain ⟨a,ha,he⟩:=QiE he _ _ _ _ _ _ _ _ _ h1
  refine ⟨a,ha,?_⟩
  have h2:((cs.drop (i*1)).take 1)[0]?=some (.int .u32 a):=by rw [he];rfl
  simpa [List.getElem?_take,List.getElem?_drop] using h2
 have each':∀ i:Fin 16,∃ a,inK .u32 a/\cs[i.val]?=some (.int .u32 a):=fun i=>each i.val i.isLt
 obtain ⟨v,hv⟩:=Classical.axiomOfChoice each'
 refine ⟨v,fun i=>QjP (hv i).1,?_⟩
 apply List.ext_getElem?
 intro i
 by_cases hi:i<16
 ·rw [Qiw _ _ hi,(hv ⟨i,hi⟩).2];simp [vat,hi]
 ·rw [List.getElem?_eq_none (by omega),List.getElem?_eq_none (by rw [QkY];omega)]
theorem QwU {P:Program} {t:TypeId} {f1 f2:Field} (ht:P.underlying t=some (.struct #[f1,f2])) (o1:f1.offset=0) (o2:f2.offset=1) (u1:P.underlying f1.type=some (.int .u8)) (u2:P.underlying f2.type=some (.int .u32))
  (c1:P.cellsOf f1.type=1) (c2:P.cellsOf f2.type=1) (hct:P.cellsOf t=2):QfF P t dc QcS:=by
 intro H enc w base spare held fuel cs x h
 obtain ⟨xs,m,_,_,hl,hxl,hx⟩:=DataW.trod_struct ht h
 rw [hct] at hl
 have h1:=hx 0 f1 rfl
 have h2:=hx 1 f2 rfl
 have hx2:xs.length=2:=by simpa using hxl
 rw [List.getElem?_eq_getElem (by omega)] at h1 h2
 rw [o1,c1] at h1
 rw [o2,c2] at h2
 obtain ⟨a,ha,e1⟩:=QiE u1 _ _ _ _ _ _ _ _ _ h1
 obtain ⟨b,hb,e2⟩:=QiE u2 _ _ _ _ _ _ _ _ _ h2
 match cs,hl with
 | [x,y],_ =>
  simp [ic] at e1 e2
  exact ⟨⟨a,b⟩,⟨QrS ha,QjP hb⟩,by rw [e1,e2];rfl⟩
theorem QmU {P:Program} {t:TypeId} {α:Type} {en:α->List Value} {ok:α->Prop} (hO:QfF P t en ok) {H:Type} {enc:TypeId × Value->H} {w:World} {base:Nat} {spare:Nat->Bool} {held:Bool} {v:Value} {d:DataW H} {ps:List MemPlace}
  (hv:∃ cs:Array Value,v = .agg cs) (h:DataW.Trod enc P w base spare held t v d ps):∃ a,ok a/\v = .agg (en a).toArray:=by
 obtain ⟨cs,rfl⟩:=hv
 obtain ⟨fuel,h⟩:=h
 obtain ⟨a,ha,he⟩:=hO _ _ _ _ _ _ _ _ _ h
 refine ⟨a,ha,?_⟩
 have:cs.toList=en a:=he
 rw [← this]
theorem Qrm {P:Program} {t:TypeId} {w:World} {r:Reach} {base:Nat} {v:Value} (hs:(∃ fs,P.underlying t=some (.struct fs))∨∃ n e,P.underlying t=some (.array n e)) (h:Value.okWide P w r base t v):∃ cs:Array Value,v = .agg cs:=by
 unfold Value.okWide at h
 rcases hs with ⟨fs,hs⟩|⟨n,e,hs⟩<;>rw [hs] at h<;>exact ⟨_,h.choose_spec.1⟩
theorem Qol {P:Program} {t e k:TypeId} {α:Type} {en:α->List Value} {ok:α->Prop} (ht:P.underlying t=some (.slice e)) (hO:QfF P e en ok) (hk:∀ x,(en x).length=k) (hc:P.cellsOf e=k) {H:Type} {enc:TypeId × Value->H} {w:World} {r:Reach} {b0 base:Nat} {spare:Nat->Bool} {held:Bool} {v:Value} {d:DataW H} {ps:List MemPlace}
  (hv:Value.okWide P w r b0 t v) (h:DataW.Trod enc P w base spare held t v d ps):∃ a c,∃ l:List α,v = .slice a l.length c/\(∀ x∈l,ok x)/\Rd w (.slice a l.length c) k (l.map en):=by
 have hv0:=hv
 obtain ⟨a,len,cap,rfl⟩:=okWide_slice ht hv
 obtain ⟨fuel,h⟩:=h
 have h':DataW.trod enc P w base spare held fuel t [.slice a len cap]=some (d,ps):=h
 rcases Go.Deep.open_slice ht h' with ⟨hcs,_⟩|⟨ad,len',cap',m,n,D,Pl,hcs,hb,hl,hm,hmm,hx,hall⟩
 ·simp only [List.cons.injEq,Value.slice.injEq,and_true] at hcs
  obtain ⟨rfl,rfl,rfl⟩:=hcs
  exact ⟨none,0,[],rfl,by simp,Rd.nil w k⟩
 ·simp only [List.cons.injEq,Value.slice.injEq,and_true] at hcs
  obtain ⟨rfl,rfl,rfl⟩:=hcs
  have hrm:len<=cap:=by
   have hv1:=hv0
   simp only [Value.okWide,ht,Cell.okWide,Cell.ok] at hv1
   exact hv1.1
  have hsp:ad.spot=none:=by
   simp only [Value.okWide,ht,Cell.okWide,Cell.ok] at hv0
   exact hv0.2.2.2.1
  have hle:len<=m:=by rw [hmm];split<;>omega
  have each:∀ i:Fin len,∃ x:α,ok x/\∀ j,j<k->w.cell? ((ad.add (i.val*k)).add j)=(en x)[j]?:=by
   intro i
   obtain ⟨cs',h1,h2⟩:=hall i.val (by omega)
   rw [hc] at h1
   obtain ⟨_,_,h3⟩:=World.cells?_some h1
   obtain ⟨x,hox,rfl⟩:=hO _ _ _ _ _ _ _ _ _ h2
   exact ⟨x,hox,h3⟩
  obtain ⟨f,hf⟩:=Classical.axiomOfChoice each
  refine ⟨some ad,cap,List.ofFn f,by rw [List.length_ofFn],fun x hx=>?_,?_⟩
  ·obtain ⟨i,rfl⟩:=List.mem_ofFn.1 hx;exact (hf i).1
  ·obtain ⟨b,o,sp⟩:=ad
   simp only at hsp
   subst hsp
   refine ⟨Qbn hk _,by simp only [QQ6,List.length_ofFn];simp only [maxLen] at hm;omega,.inr ⟨b,o,cap,by rw [QQ6]⟩,fun i j l u hi hj=>?_,by rw [QQ6,List.length_ofFn];exact hrm⟩
   have hi':=QaZ hi
   rw [QQ6,List.length_ofFn] at hi'
   have e1:l=en (f ⟨i,hi'⟩):=by
    rw [List.getElem?_map,List.getElem?_ofFn] at hi
    simp [hi'] at hi
    exact hi.symm
   subst e1
   have hjk:j<k:=by have:=QaZ hj;rw [hk] at this;exact this
   have h4:=(hf ⟨i,hi'⟩).2 j hjk
   rw [Qbk,Qbk] at h4
   show w.cell? ⟨b,o+i*k+j,none⟩=some u
   rw [← hj];exact h4
end Go.Vx
namespace Go.Proofs
open Go Go.Vx Go.RowKit
open Tryz
namespace Tt
theorem HM:prog.follows .mixedOrders=true:=by kernel_rfl
theorem QaU:T1 prog 22:=⟨sizeOf22,isAgg22⟩
theorem QtT:T1 prog 3:=⟨sizeOf3,isAgg3⟩
theorem Qar:T1 prog 32:=⟨sizeOf32,isAgg32⟩
theorem QcI:T1 prog 5:=⟨sizeOf5,isAgg5⟩
theorem QbC:TA prog 24 16:=⟨sizeOf24,isAgg24⟩
theorem QcV:TA prog 96 2:=⟨sizeOf96,isAgg96⟩
theorem Qa3:TA prog 98 23:=⟨sizeOf98,isAgg98⟩
theorem Qxz (a b:Vec):EqF prog 2 24 (.agg (vc a).toArray) (.agg (vc b).toArray) (decide (a=b)):=QsJ underlying24 type22 rfl runUnderlying22 ⟨sizeOf22,isAgg22⟩ a b
theorem QkI:El prog 199 3 1 8:=⟨underlying199,_,_,type3,rfl,rfl,rfl,rfl,by decide⟩
theorem Qr2:En prog 103:=call103
theorem QuX:En prog 104:=call104
theorem Qwj:En prog 105:=call105
theorem Qor:En prog 112:=call112
theorem QnS:En prog 127:=call127
theorem Qr9:En prog 146:=call146
theorem QrG:En prog 147:=call147
theorem QuZ:En prog 151:=call151
theorem Qu4:En prog 152:=call152
theorem Qrt:En prog 158:=call158
theorem Qrw:En prog 171:=call171
theorem Qps:En prog 29:=call29
theorem Qvu:En prog 34:=call34
theorem QoV:En prog 40:=call40
theorem Qpz:En prog 41:=call41
theorem QvT:En prog 55:=call55
theorem QtF:En prog 60:=call60
theorem Qq5:En prog 61:=call61
theorem QlR:En prog 71:=call71
theorem QxJ:En prog 86:=call86
theorem QxS:En prog 87:=call87
theorem QwT:En prog 90:=call90
theorem Qpg:En prog 93:=call93
theorem Qrh:En prog 94:=call94
theorem Qql:En prog 95:=call95
theorem Qxj:En prog 99:=call99
theorem QbJ:FA prog 96 0 0:=fun b o w=>by simp [Instr.fieldAt,Instr.sureAddr,fieldPlace,Qbk]
theorem QbN:FA prog 96 1 1:=fun b o w=>by simp [Instr.fieldAt,Instr.sureAddr,fieldPlace,Qbk]
theorem Qa7:FA prog 98 0 0:=fun b o w=>by simp [Instr.fieldAt,Instr.sureAddr,fieldPlace,Qbk]
theorem Qbz:FA prog 98 1 2:=fun b o w=>by simp [Instr.fieldAt,Instr.sureAddr,fieldPlace,Qbk]
theorem Qc4:FA prog 98 2 3:=fun b o w=>by simp [Instr.fieldAt,Instr.sureAddr,fieldPlace,Qbk]
theorem Qcq:FA prog 98 3 4:=fun b o w=>by simp [Instr.fieldAt,Instr.sureAddr,fieldPlace,Qbk]
theorem QcP:FA prog 98 4 5:=fun b o w=>by simp [Instr.fieldAt,Instr.sureAddr,fieldPlace,Qbk]
theorem Qf2:FA prog 98 5 6:=fun b o w=>by simp [Instr.fieldAt,Instr.sureAddr,fieldPlace,Qbk]
theorem QcG:FA prog 98 6 7:=fun b o w=>by simp [Instr.fieldAt,Instr.sureAddr,fieldPlace,Qbk]
theorem Qrx:Ud prog 104 (.int .u64):=runUnderlying104
theorem Qr8:Ud prog 199 (.slice 3):=runUnderlying199
theorem QiZ:Ud prog 22 (.int .u32):=runUnderlying22
theorem Qd0:Ud prog 24 (.array 16 22):=runUnderlying24
theorem Qhk:Ud prog 3 (.int .i64):=runUnderlying3
theorem QxR:Ud prog 5 (.int .u8):=runUnderlying5
theorem Qso:Zv prog 24 (.agg (vc vzero).toArray):=zeroValue24
theorem Qxq:Zv prog 96 (.agg (dc (⟨0,0⟩:Dot)).toArray):=zeroValue96
end Tt
end Go.Proofs
namespace Go.Vx
open Go.RowKit
theorem Qiz:∀ (vs cs:List Value) (o N:Nat),(spl cs o vs).take N=spl (cs.take N) o vs
 | [],_,_,_=>rfl
 | v :: vs,cs,o,N=>by
  unfold spl
  rw [Qiz vs (cs.set o v) (o+1) N,List.take_set]
theorem Qim:∀ (m:List (List Value)) (k:Nat) (_:∀ l∈m,l.length=k) (j:Nat) (x:List Value) (_:x.length=k) (_:j<m.length),(m.set j x).flatten=spl m.flatten (j*k) x
 | [],_,_,_,_,_,hj=>by simp at hj
 | a :: m,k,hm,j,x,hx,hj=>by
  have ha:=hm a (by simp)
  have hm':∀ l∈m,l.length=k:=fun l h=>hm l (by simp [h])
  have hfl:∀ m:List (List Value),(∀ l∈m,l.length=k)->m.flatten.length=m.length*k:=by
   intro m
   induction m with
   | nil=>simp
   | cons a m ih =>
    intro hm
    rw [List.flatten_cons,QQ7,ih (fun l hl=>hm l (by simp [hl])),hm a (by simp),List.length_cons,Nat.add_mul]
    omega
  cases j with
  | zero =>
   rw [QcW _ _ _ (by rw [List.flatten_cons,QQ7];omega)]
   simp only [List.set_cons_zero,List.flatten_cons,Nat.zero_mul,List.take_zero,List.nil_append,Nat.zero_add]
   rw [hx,← ha,List.drop_left]
  | succ j =>
   simp only [List.length_cons,Nat.add_lt_add_iff_right] at hj
   have hjk:(j+1)*k<=m.length*k:=Nat.mul_le_mul_right _ hj
   rw [Nat.add_mul] at hjk
   rw [List.set_cons_succ,List.flatten_cons,Qim m k hm' j x hx hj]
   rw [QcW _ _ _ (by rw [hfl m hm'];omega),QcW _ _ _ (by rw [List.flatten_cons,QQ7,hfl m hm',Nat.add_mul];omega)]
   have e1:(j+1)*k=a.length+j*k:=by rw [Nat.add_mul,ha];omega
   have e2:(j+1)*k+x.length=a.length+(j*k+x.length):=by rw [e1];omega
   rw [List.flatten_cons,e1,List.take_length_add_append]
   rw [show a.length+j*k+x.length=a.length+(j*k+x.length) by omega,List.drop_length_add_append]
   simp only [List.append_assoc]
section
variable {P:Program} {ty:TypeId} {e:Operand->Value} {w:World} {K:Value->World->Prop} {w0:World} {M:Nat->Prop} {L:List Res}
theorem Qh8 {α:Type} {t E k n:Nat} {enc:α->List Value} {x y:Operand} {v:Value} {l:List α} {z:α} {V:Value} (i:Nat) (ht:Sz P t k) (hs:Own w0 M w L) (j:Nat) (hk:L[j]?=some (row v (l.map enc) E k)) (hx:e x = .pointer (some ⟨bkS v,n,none⟩)) (hn:n=ofS v+i*k) (hi:i<l.length) (hy:e y=V)
  (hV:V.cells=(enc z).toArray) (hz:(enc z).length=k) (h1:∀ u∈enc z,u.oneCell'=true) (h:∀ w',Own w0 M w' (L.set j (row v ((l.set i z).map enc) E k))->K undef w'):opW P (.store t x y) ty e w K:=by
 obtain ⟨S,⟨⟨hl1,ho1⟩,hown,hSg⟩,hlt,_⟩:=hs.get j hk
 rcases hown.2 with ⟨hv,hn0⟩|⟨g,cap,cur,hv,h0g,hg,hnc,hcm,hcs,htake⟩
 ·have h0:l.length=0:=by simpa using hn0
  omega
 have hlen:(l.map enc).length=l.length:=by simp
 subst hv
 have hn':n=i*k:=by rw [hn];simp [ofS]
 subst hn'
 have hx':e x = .pointer (some ⟨g,i*k,none⟩):=hx
 have hik:i*k+k<=l.length*k:=by
  have:=Nat.mul_le_mul_right k (show i+1<=l.length from hi)
  rw [Nat.add_mul] at this;omega
 have hcap:l.length*k<=cur.size:=by rw [hcs];exact Nat.mul_le_mul_right _ (by rw [← hlen];exact hnc)
 have hrun:=QcB (P:=P) ht g (i*k) E V (enc z) cur.toList hV hz (w:=w) (by simpa using hg) (by rw [hz,QQ9];omega) h1
 refine QeF (w':=w.setRow g (spl cur.toList (i*k) (enc z)).toArray) ?_ (h _ ?_)
 ·simp only [execOp,hx',hy,Instr.storeAt,Instr.sureAddr,Sem.run_bind,Sem.run_pure,Result.andThen_ok,hrun]
 refine hs.change j (b:=g) hk (by simp) rfl rfl rfl (fun c hc=>setRow_other w g c _ hc) ?_
 rintro S' ⟨_,hown',hSg'⟩
 have e1:(l.set i z).map enc=(l.map enc).set i (enc z):=by rw [List.map_set]
 have hk1:∀ m∈(l.map enc).set i (enc z),m.length=k:=by
  intro m hm
  rcases List.mem_or_eq_of_mem_set hm with h|h
  ·exact hl1 m h
  subst h;exact hz
 have hsl:∀ cs:List Value,i*k+k<=cs.length->(spl cs (i*k) (enc z)).length=cs.length:=fun cs hc=>by
  rw [QcW _ _ _ (by omega)]
  simp only [QQ7,List.length_take,List.length_drop];omega
 refine ⟨hSg' g rfl,?_⟩
 rw [e1]
 refine ⟨⟨hk1,?_⟩,⟨?_,.inr ⟨g,cap,_,by rw [List.length_set],h0g,setRow_heap w g cur _ E _ hg,by rw [List.length_set];exact hnc,hcm,?_,?_⟩⟩,fun g' hg'=>by cases hg';exact hSg' g rfl⟩
 ·intro m hm u hu
  rcases List.mem_or_eq_of_mem_set hm with h|h
  ·exact ho1 m h u hu
  subst h;exact h1 u hu
 ·rw [Qim _ k hl1 _ _ hz (by rw [hlen];exact hi),List.length_set,hsl _ (by rw [hown.1,hlen];exact hik)];exact hown.1
 ·rw [List.size_toArray,hsl _ (by rw [QQ9];omega)];simpa using hcs
 rw [Qim _ k hl1 _ _ hz (by rw [hlen];exact hi),← htake,List.length_set]
 show (spl cur.toList (i*k) (enc z)).take _=_
 rw [Qiz]
end
end Go.Vx
namespace Go.Vx
open Go.RowKit
theorem QfI (a:Option Addr) (c k:Nat):sla a 0 c k=a:=by
 unfold sla
 split
 ·rfl
 cases a with
 | none=>rfl
 | some a =>
  cases a with
  | mk b o s=>cases s<;>simp [Addr.add]
theorem QoY {b o l m k:Nat} (h:l<m):sla (some ⟨b,o,none⟩) l m k=some ⟨b,o+l*k,none⟩:=by
 unfold sla;rw [if_neg (by omega)];simp only [Option.map_some,Qbk]
section
variable {P:Program} {ty:TypeId} {e:Operand->Value} {w:World} {K:Value->World->Prop} {w0:World} {M:Nat->Prop} {L:List Res}
theorem Qr3 {t el:Nat} {x:Operand} {a:Option Addr} {n c:Nat} (ht:Ud P t (.slice el)) (hx:e x = .slice a n c) (h:K (.int .i64 c) w):opW P (.call { callee:=.builtin .cap,args:=#[x],argTypes:=#[t] }) ty e w K:=by
 refine Qa6 (w':=w) ?_ h
 rw [BigFrame.execOp_builtin]
 simp only [List.map_toArray,List.map_cons,List.map_nil,hx,Go.builtin,Builtin.cap_,Sem.run_bind,ht w,Result.andThen_ok,Sem.run_pure,List.getElem?_toArray,List.getElem?_cons_zero,goInt]
theorem Qed {t el k:Nat} {x:Operand} {lo hi:Option Operand} {a:Option Addr} {n c l h n':Nat} (ht:P.underlying t=some (.slice el)) (hk:Sz P el k) (hnc:n<=c) (hx:e x = .slice a n c)
  (hlo:(lo=none/\l=0)∨∃ y j,lo=some y/\e y = .int j (l:Int)) (hhi:(hi=none/\h=n)∨∃ y j,hi=some y/\e y = .int j (h:Int))
  (h1:l<=h) (h2:h<=c) (hn:n'=h-l) (hK:K (.slice (sla a l c k) n' (c-l)) w):opW P (.slice t x lo hi none) ty e w K:=by
 subst hn
 have hel:P.elem t=el:=by simp [Program.elem,ht]
 have ht':P.underlying t=some (.slice (P.elem t)):=by rw [hel];exact ht
 have key:(Instr.slice t (.slice a n c) (lo.map e) (hi.map e) none).run P w = .ok (.slice (sla a l c k) (h-l) (c-l)) w:=by
  have fin:∀ l' h',l'=l->h'=h->((sizeOf (P.elem t)).run P w).andThen (fun s w=>.ok (sliced a l' h' c s) w)=Result.ok (.slice (sla a l c k) (h-l) (c-l)) w:=by
   intro l' h' e1 e2
   subst e1;subst e2
   rw [hel,hk w];rfl
  rcases hlo with ⟨rfl,rfl⟩|⟨yl,jl,rfl,hyl⟩<;>rcases hhi with ⟨rfl,rfl⟩|⟨yh,jh,rfl,hyh⟩
  ·rw [show (none:Option Operand).map e=none from rfl,run_slice_all w t a _ _ ht'];exact fin _ _ rfl rfl
  ·simp only [Option.map_some,Option.map_none,hyh];rw [run_slice_h w t a _ _ ht' _ _ (by omega) (by omega)];exact fin _ _ rfl (by omega)
  ·simp only [Option.map_some,Option.map_none,hyl];rw [run_slice_l w t a _ _ ht' _ _ (by omega) (by omega)];exact fin _ _ (by omega) rfl
  simp only [Option.map_some,hyl,hyh];rw [run_slice_lh w t a _ _ ht' _ _ _ _ (by omega) (by omega) (by omega)];exact fin _ _ (by omega) (by omega)
 refine Qa6 (w':=w) ?_ hK
 have hat:(Instr.sliceAt t (.slice a n c) (lo.map e) (hi.map e) none).run P w = .ok (.slice (sla a l c k) (h-l) (c-l)) w:=by rw [run_sliceAt_slice w t _ _ _ _ ht'];exact key
 simp only [execOp,hx,Sem.run_bind,Option.map_none,hat,Result.andThen_ok,Sem.run_pure]
theorem Qkh {k:Nat} (ls ms:List (List Value)) (hl:∀ l∈ls,l.length=k) (hm:∀ l∈ms,l.length=k) (cur:List Value) (p N:Nat) (hp:p<=ls.length) (hcur:cur.take (ls.length*k)=ls.flatten) (_:(p+ms.length)*k<=cur.length) (hN:N=max ls.length (p+ms.length)) (hNc:ls.length*k<=cur.length) :
  (cur.take (p*k)++ms.flatten++cur.drop (p*k+ms.flatten.length)).take (N*k)=(ls.take p++ms++ls.drop (p+ms.length)).flatten:=by
 have hmf:=Qcg ms hm
 have hlf:=Qcg ls hl
 have htp:∀ l∈ls.take p,l.length=k:=fun l h=>hl l (List.mem_of_mem_take h)
 have e1:cur.take (p*k)=(ls.take p).flatten:=by
  have h1:ls.flatten=(ls.take p).flatten++(ls.drop p).flatten:=by rw [← List.flatten_append,List.take_append_drop]
  have h2:(ls.take p).flatten.length=p*k:=by rw [Qcg _ htp,List.length_take,Nat.min_eq_left hp]
  have h3:cur.take (p*k)=(cur.take (ls.length*k)).take (p*k):=by rw [List.take_take,Nat.min_eq_left (Nat.mul_le_mul_right _ hp)]
  rw [h3,hcur,h1,List.take_left' h2]
 have hpk:(cur.take (p*k)).length=p*k:=by
  rw [List.length_take]
  have:=Nat.mul_le_mul_right k hp
  omega
 rw [List.flatten_append,List.flatten_append,← e1]
 have hle:p*k+ms.flatten.length=(p+ms.length)*k:=by rw [hmf,Nat.add_mul]
 rw [hle]
 have hN2:N*k=(p+ms.length)*k+(N-(p+ms.length))*k:=by rw [← Nat.add_mul];congr 1;omega
 rw [hN2]
 have hll:(cur.take (p*k)++ms.flatten).length=(p+ms.length)*k:=by rw [QQ7,hpk,hle]
 rw [← hll,List.take_length_add_append]
 congr 1
 have hdd:∀ l∈ls.take (p+ms.length),l.length=k:=fun l h=>hl l (List.mem_of_mem_take h)
 by_cases hc:ls.length<=p+ms.length
 ·rw [List.drop_eq_nil_of_le hc,show N-(p+ms.length)=0 by omega];simp
 have hNl:N=ls.length:=by omega
 have h1:ls.flatten=(ls.take (p+ms.length)).flatten++(ls.drop (p+ms.length)).flatten:=by rw [← List.flatten_append,List.take_append_drop]
 have h2:(ls.take (p+ms.length)).flatten.length=(p+ms.length)*k:=by rw [Qcg _ hdd,List.length_take,Nat.min_eq_left (by omega)]
 have h3:(cur.take (ls.length*k)).drop ((p+ms.length)*k)=(ls.drop (p+ms.length)).flatten:=by rw [hcur,h1,List.drop_left' h2]
 rw [List.drop_take] at h3
 rw [hll,← h3,hNl,Nat.sub_mul]
theorem QdC {t t2 E k bytes lo dl dc sl sc n n' c:Nat} {x y:Operand} {a sa:Option Addr} {ls ms ls':List (List Value)} (hE:El P t E k bytes) (hs:Own w0 M w L) (j:Nat) (hj:L[j]?=some (row (.slice a n c) ls E k)) (hx:e x = .slice (sla a lo c k) dl dc) (hy:e y = .slice sa sl sc)
  (hm0:ms.length=min sl dl) (hsrc:0<ms.length->∃ ad,sa=some ad/\∀ q u,ms.flatten[q]?=some u->w.cell? (ad.add q)=some u) (hlen:∀ l∈ms,l.length=k) (hone:∀ l∈ms,∀ u∈l,u.oneCell'=true) (hfit:lo+ms.length<=c) (hlo:lo<=ls.length)
  (hl':ls.take lo++ms++ls.drop (lo+ms.length)=ls') (hn':ls'.length=n') (h:∀ w',Own w0 M w' (L.set j (row (.slice a n' c) ls' E k))->K (.int .i64 ms.length) w') :
  opW P (.call { callee:=.builtin .copy,args:=#[x,y],argTypes:=#[t,t2] }) ty e w K:=by
 have hm:ms.length=Nat.min sl dl:=hm0
 subst hl'
 subst hn'
 obtain ⟨ht,ie,z,hie,hz,rfl,rfl,hzs,hk⟩:=hE
 obtain ⟨S,⟨⟨hl1,ho1⟩,hown,hSg⟩,hlt,_⟩:=hs.get j hj
 rcases Nat.eq_zero_or_pos ms.length with h0|h0
 ·have hms:ms=[]:=List.eq_nil_of_length_eq_zero h0
  subst hms
  have hmin:Nat.min sl dl=0:=by simpa using hm.symm
  have hnl:n=ls.length:=by
   rcases hown.2 with ⟨hv,hn0⟩|⟨g,cap,cur,hv,_⟩
   ·cases hv;exact hn0.symm
   cases hv;rfl
  have e1:L.set j (row (.slice a (ls.take lo++[]++ls.drop (lo+([]:List (List Value)).length)).length c) (ls.take lo++[]++ls.drop (lo+([]:List (List Value)).length)) E ie.size)=L:=by
   have:ls.take lo++[]++ls.drop (lo+([]:List (List Value)).length)=ls:=by simp
   rw [this,← hnl]
   apply List.ext_getElem?
   intro m
   rw [List.getElem?_set]
   split
   ·rename_i e;subst e;rw [if_pos (QaZ hj),hj]
   rfl
  refine Qa6 (w':=w) ?_ (h w (by rw [e1];exact hs))
  rw [BigFrame.execOp_builtin]
  have hf:∀ v,Sem.run P (Builtin.firstCells ie.size 0 (.slice v sl sc)) w = .ok #[] w:=by
   intro v;cases v<;>simp [Builtin.firstCells,loadCells,loadCellsFrom,Sem.run]
  simp only [List.map_toArray,List.map_cons,List.map_nil,hx,hy,Go.builtin]
  cases sla a lo c ie.size<;>simp [Builtin.copy_,run_underlying ht,Builtin.lenOf,sizeOf,typeInfo,hie,hmin,hf,storeCells,goInt,Sem.run]
 obtain ⟨ad,rfl,hcells⟩:=hsrc h0
 rcases hown.2 with ⟨hv,hn0⟩|⟨g,cap,cur,hv,h0g,hg,hnc,hcm,hcs,htake⟩
 ·cases hv
  omega
 cases hv
 have hloc:lo<c:=by omega
 rw [QoY hloc,Nat.zero_add] at hx
 have hmf:=Qcg ms hlen
 have hfits:lo*ie.size+ms.flatten.length<=cur.size:=by
  rw [hmf,← Nat.add_mul,hcs];exact Nat.mul_le_mul_right _ hfit
 have hld:=run_loadCells_list (P:=P) w ad ms.flatten hcells
 have hst:=run_storeCells_at P g (lo*ie.size) E ms.flatten 0 cur w hg (by simpa using hfits) (fun v hv=>by
    obtain ⟨l,hl,hvl⟩:=List.mem_flatten.1 hv
    exact hone l hl v hvl)
 have hld':Sem.run P (loadCells ad (Nat.min sl dl*ie.size)) w = .ok ms.flatten.toArray w:=by rw [← hm,← hmf];exact hld
 refine Qa6 (w':=w.setRow g (cur.toList.take (lo*ie.size)++ms.flatten++cur.toList.drop (lo*ie.size+ms.flatten.length)).toArray) ?_ (h _ ?_)
 ·rw [BigFrame.execOp_builtin]
  simp only [List.map_toArray,List.map_cons,List.map_nil,hx,hy,Go.builtin]
  simp [Builtin.copy_,run_underlying ht,Builtin.lenOf,Builtin.firstCells,sizeOf,typeInfo,hie,hld',hst,hm,goInt]
 refine hs.change j (b:=g) hj (by simp) rfl rfl rfl (fun b hb=>setRow_other w g b _ hb) ?_
 rintro S' ⟨_,hown',hSg'⟩
 have hk1:∀ m∈ls.take lo++ms++ls.drop (lo+ms.length),m.length=ie.size:=by
  intro m hm
  rcases List.mem_append.1 hm with h|h
  ·rcases List.mem_append.1 h with h|h
   ·exact hl1 m (List.mem_of_mem_take h)
   exact hlen m h
  exact hl1 m (List.mem_of_mem_drop h)
 have hlen':(ls.take lo++ms++ls.drop (lo+ms.length)).length=max ls.length (lo+ms.length):=by
  simp only [QQ7,List.length_take,List.length_drop];omega
 have hcl:cur.toList.length=c*ie.size:=by simpa using hcs
 have hsp:=Qkh ls ms hl1 hlen cur.toList lo (max ls.length (lo+ms.length)) hlo htake (by rw [hcl];exact Nat.mul_le_mul_right _ hfit) rfl (by rw [hcl];exact Nat.mul_le_mul_right _ hnc)
 refine ⟨hSg' g rfl,⟨hk1,?_⟩,⟨by rw [Qcg _ hk1],.inr ⟨g,c,_,rfl,h0g,setRow_heap w g cur _ E _ hg,by rw [hlen'];omega,hcm,?_,?_⟩⟩,fun g' hg'=>by cases hg';exact hSg' g rfl⟩
 ·intro m hm
  rcases List.mem_append.1 hm with h|h
  ·rcases List.mem_append.1 h with h|h
   ·exact ho1 m (List.mem_of_mem_take h)
   exact hone m h
  exact ho1 m (List.mem_of_mem_drop h)
 ·rw [List.size_toArray]
  simp only [QQ7,List.length_take,List.length_drop,hcl]
  rw [hcs] at hfits
  omega
 rw [hlen',← hsp]
theorem Rd.srcs {k:Nat} {sa:Option Addr} {n c:Nat} {ms:List (List Value)} (hr:Rd w (.slice sa n c) k ms):0<ms.length->∃ ad,sa=some ad/\∀ q u,ms.flatten[q]?=some u->w.cell? (ad.add q)=some u:=by
 intro h0
 obtain ⟨b,o,c',hv⟩:=hr.ptr h0
 cases hv
 exact ⟨_,rfl,hr.flat rfl⟩
theorem QeV {z:List Value}:∀ n:Nat,Builtin.zeroCells z.toArray n=(List.replicate n z).flatten.toArray:=by
 intro n
 apply Array.ext'
 simp only [Builtin.zeroCells,Array.toList_map,Array.toList_range]
 rcases Nat.eq_zero_or_pos z.length with h0|h0
 ·have:z=[]:=List.eq_nil_of_length_eq_zero h0
  subst this
  simp
 apply List.ext_getElem?
 intro j
 have hlen:(List.replicate n z).flatten.length=n*z.length:=by simp [List.length_flatten]
 by_cases hj:j<n*z.length
 ·rw [List.getElem?_map,List.getElem?_range (by simpa using hj)]
  simp only [Option.map_some]
  have hi:j/z.length<n:=Nat.div_lt_of_lt_mul (by rw [Nat.mul_comm];exact hj)
  have hm:j%z.length<z.length:=Nat.mod_lt _ h0
  have:=QhU (List.replicate n z) z.length (fun l hl=>by rw [List.eq_of_mem_replicate hl]) (j/z.length) (j%z.length) z z[j%z.length] (by simp [hi]) (by simp [hm])
  rw [Nat.mul_comm,Nat.div_add_mod] at this
  rw [this]
  simp [hm]
 rw [List.getElem?_eq_none (by simpa using hj),List.getElem?_eq_none (by rw [hlen];omega)]
theorem QrB {t tn E k bytes n c i cnt:Nat} {kn:IntKind} {x y:Operand} {a:Option Addr} {zl:List Value} {ls ls':List (List Value)} (hE:El P t E k bytes) (hn:P.underlying tn=some (.int kn)) (hz:Zv P E (.agg zl.toArray)∨∃ v,zl=[v]/\Zv P E v/\v.cells = #[v]) (hs:Own w0 M w L) (hr:Rd w (.slice a n c) k ls) (hx:e x = .slice (sla a 0 c k) i c) (hy:e y = .int .i64 (cnt:Int))
  (hi:i<=ls.length) (h0:0<ls.length) (hc:0<cnt) (hfull:c<i+cnt) (h1:∀ l∈ls,∀ u∈l,u.oneCell'=true) (hz1:∀ u∈zl,u.oneCell'=true) (hzk:zl.length=k) (hb:(i+cnt)*(bytes+1)<=140737488355328) (hl:ls.take i++List.replicate cnt zl=ls') (n':Nat) (hn':ls'.length=n') (h:∀ a c w',Own w0 M w' (L++[row (.slice a n' c) ls' E k])->K (.slice a n' c) w') :
  opW P (.call { callee:=.builtin .append,args:=#[x,y],argTypes:=#[t,tn] }) ty e w K:=by
 subst hl
 subst hn'
 obtain ⟨ht,ie,z,hie,hzz,rfl,rfl,hzs,hk⟩:=hE
 rw [QfI] at hx
 have hzc:z.cells=zl.toArray:=by
  have hval:∀ V,Zv P E V->V=z:=fun V hV=>by
   have:=hV w
   simp [zeroValue,typeInfo,hie,hzz,Sem.run] at this
   exact this.symm
  rcases hz with hz|⟨v,e1,hz,hc⟩
  ·rw [← hval _ hz];rfl
  rw [← hval _ hz,hc,e1]
 obtain ⟨b,o,c',hv⟩:=hr.ptr h0
 cases hv
 have hbn:i+cnt<=140737488355328:=Nat.le_trans (Nat.le_mul_of_pos_right _ (by omega)) hb
 have hbb:(i+cnt)*ie.bytes<=140737488355328:=Nat.le_trans (Nat.mul_le_mul_left _ (by omega)) hb
 have htk:∀ l∈ls.take i,l.length=ie.size:=fun l hl=>hr.len l (List.mem_of_mem_take hl)
 have hlt:(ls.take i).length=i:=by rw [List.length_take];omega
 have hflt:=Qcg _ htk
 have hold:∀ q u,(ls.take i).flatten[q]?=some u->w.drew.cell? ((⟨b,o,none⟩:Addr).add q)=some u:=by
  intro q u hq
  have hfl:ls.flatten=(ls.take i).flatten++(ls.drop i).flatten:=by rw [← List.flatten_append,List.take_append_drop]
  have:ls.flatten[q]?=some u:=by rw [hfl,List.getElem?_append_left (QaZ hq)];exact hq
  simpa using hr.flat rfl q u this
 have hfo:=run_firstCells_some (P:=P) w.drew ie.size i ⟨b,o,none⟩ i c (ls.take i).flatten (by rw [hflt,hlt]) hold
 have hw:IntKind.i64.wrap (cnt:Int)=cnt:=by rw [IntKind.wrap_i64];omega
 have hneg:¬((cnt:Int)<0):=by omega
 have hcz:cnt≠0:=by omega
 have hns:¬(cnt*ie.size=0):=Nat.mul_ne_zero hcz (by omega)
 have hneed:¬(i+cnt<=c):=by omega
 have h63:¬(9223372036854775807<((i:Int)+(cnt:Int))):=by omega
 have h48:=growslice_fits hfull hbb
 have h48':¬(281474976710656<Builtin.nextslicecap (i+cnt) c*ie.bytes):=by omega
 have hcb:cnt*ie.bytes<=140737488355328:=Nat.le_trans (Nat.mul_le_mul_right _ (by omega)) hbb
 have h48i:¬(281474976710656<(cnt:Int)*(ie.bytes:Int)):=by rw [← Int.natCast_mul];omega
 have hrun:(Builtin.append_ #[t,tn] ty #[.slice (some ⟨b,o,none⟩) i c,.int .i64 cnt]).run P w =
   .ok (.slice (some ⟨w.heap.size,0,none⟩) (i+cnt) (grownCap w (i+cnt) c E)) (w.drew.alloc (.cells ((ls.take i).flatten.toArray++Builtin.zeroCells z.cells cnt++Builtin.zeroCells z.cells (grownCap w (i+cnt) c E-(i+cnt))) E)):=by
  simp [Builtin.append_,run_underlying ht,run_underlying hn,sizeOf,typeInfo,zeroValue,hie,hzz,asInt,asIntOf,hw,hcz,hneg,hns,hneed,h63,h48',h48i,Question.forced,hfo,newRow,grownCap]
 have hcells:(ls.take i).flatten.toArray++Builtin.zeroCells z.cells cnt=((ls.take i)++List.replicate cnt zl).flatten.toArray:=by
  rw [hzc,QeV,List.flatten_append];simp
 have h5:=Qgm (w:=w.drew) (xs:=((ls.take i)++List.replicate cnt zl).flatten) (rest:=Builtin.zeroCells z.cells (grownCap w (i+cnt) c E-(i+cnt))) (ls:=ls.take i++List.replicate cnt zl) (e:=E) (k:=ie.size) (cap:=grownCap w (i+cnt) c E)
  (fun l hl=>by rcases List.mem_append.1 hl with h|h;exact htk l h;rw [List.eq_of_mem_replicate h];exact hzk) (fun l hl=>by rcases List.mem_append.1 hl with h|h;exact h1 l (List.mem_of_mem_take h);rw [List.eq_of_mem_replicate h];exact hz1) rfl
  (by rw [QQ7,hlt,List.length_replicate];exact grownCap_ge w _ _ _) (grownCap_le_maxLen w _ _ _ (by simp only [maxLen];omega)) (by rw [size_zeroCells,hzs,QQ7,hlt,List.length_replicate])
 have hnn:(ls.take i++List.replicate cnt zl).length=i+cnt:=by rw [QQ7,hlt,List.length_replicate]
 refine Qa6 (w':=w.drew.alloc (.cells (((ls.take i)++List.replicate cnt zl).flatten.toArray++Builtin.zeroCells z.cells (grownCap w (i+cnt) c E-(i+cnt))) E)) ?_ (h (some ⟨w.heap.size,0,none⟩) (grownCap w (i+cnt) c E) _ ?_)
 ·rw [BigFrame.execOp_builtin]
  simp only [List.map_toArray,List.map_cons,List.map_nil,hx,hy,BigFrame.builtin_append,Sem.run_bind,hrun,Result.andThen_ok,Sem.run_pure,hnn,hcells]
 exact hs.drew.new _ _ (by simpa using h5)
theorem Qk8 {t E k bytes n c i m cc:Nat} {x:Operand} {a:Option Addr} {ls:List (List Value)} (hE:El P t E k bytes) (hs:Own w0 M w L) (j:Nat) (hj:L[j]?=some (row (.slice a n c) ls E k)) (hx:e x = .slice (sla a i c k) m cc) (hi:i<=ls.length) (hm:m=ls.length-i)
  (hz1:∀ v,Zv P E v->∀ u∈v.cells.toList,u.oneCell'=true) (h:∀ w',Own w0 M w' (L.set j (row (.slice a i c) (ls.take i) E k))->K (.tuple #[]) w') :
  opW P (.call { callee:=.builtin .clear,args:=#[x],argTypes:=#[t] }) ty e w K:=by
 obtain ⟨ht,ie,z,hie,hzz,rfl,rfl,hzs,hk⟩:=hE
 obtain ⟨S,⟨⟨hl1,ho1⟩,hown,hSg⟩,hlt,_⟩:=hs.get j hj
 have hnl:n=ls.length:=by
  rcases hown.2 with ⟨hv,hn0⟩|⟨g,cap,cur,hv,_⟩
  ·cases hv;exact hn0.symm
  cases hv;rfl
 rcases Nat.eq_zero_or_pos m with h0|h0
 ·refine Qa6 (w':=w) ?_ (h w ?_)
  ·rw [BigFrame.execOp_builtin]
   simp only [List.map_toArray,List.map_cons,List.map_nil,hx,h0,Go.builtin]
   cases sla a i c ie.size<;>simp [Builtin.clear_,run_underlying ht]
  have e1:L.set j (row (.slice a i c) (ls.take i) E ie.size)=L:=by
   have hil:i=ls.length:=by omega
   subst hil
   rw [List.take_length,← hnl]
   apply List.ext_getElem?
   intro q
   rw [List.getElem?_set]
   split
   ·rename_i e;subst e;rw [if_pos (QaZ hj),hj]
   rfl
  rw [e1];exact hs
 rcases hown.2 with ⟨hv,hn0⟩|⟨g,cap,cur,hv,h0g,hg,hnc,hcm,hcs,htake⟩
 ·omega
 cases hv
 have hic:i<c:=by omega
 rw [QoY hic,Nat.zero_add] at hx
 have hzl:(Builtin.zeroCells z.cells m).toList.length=m*ie.size:=by rw [QQ9,size_zeroCells,hzs]
 have hZ:Zv P E z:=fun w=>by simp [zeroValue,typeInfo,hie,hzz,Sem.run]
 have hone:=hz1 z hZ
 have hzm:∀ v∈(Builtin.zeroCells z.cells m).toList,v.oneCell'=true:=by
  have e1:=QeV (z:=z.cells.toList) m
  rw [Array.toArray_toList] at e1
  rw [e1]
  intro v hv
  obtain ⟨l,hl,hvl⟩:=List.mem_flatten.1 hv
  rw [List.eq_of_mem_replicate hl] at hvl
  exact hone v hvl
 have hfits:i*ie.size+(Builtin.zeroCells z.cells m).toList.length<=cur.size:=by
  rw [hzl,← Nat.add_mul,hcs];exact Nat.mul_le_mul_right _ (by omega)
 have hst:=run_storeCells_at P g (i*ie.size) E (Builtin.zeroCells z.cells m).toList 0 cur w hg (by simpa using hfits) hzm
 refine Qa6 (w':=w.setRow g (cur.toList.take (i*ie.size)++(Builtin.zeroCells z.cells m).toList++cur.toList.drop (i*ie.size+(Builtin.zeroCells z.cells m).toList.length)).toArray) ?_ (h _ ?_)
 ·rw [BigFrame.execOp_builtin]
  simp only [List.map_toArray,List.map_cons,List.map_nil,hx,Go.builtin]
  cases m with
  | zero=>omega
  | succ m=>simp [Builtin.clear_,run_underlying ht,hZ w,hst]
 refine hs.change j (b:=g) hj (by simp) rfl rfl rfl (fun b hb=>setRow_other w g b _ hb) ?_
 rintro S' ⟨_,hown',hSg'⟩
 have hk1:∀ q∈ls.take i,q.length=ie.size:=fun q hq=>hl1 q (List.mem_of_mem_take hq)
 have hlen':(ls.take i).length=i:=by rw [List.length_take];omega
 have hcl:cur.toList.length=c*ie.size:=by simpa using hcs
 refine ⟨hSg' g rfl,⟨hk1,fun q hq=>ho1 q (List.mem_of_mem_take hq)⟩,⟨by rw [Qcg _ hk1],.inr ⟨g,c,_,by rw [hlen'],h0g,setRow_heap w g cur _ E _ hg,by rw [hlen'];omega,hcm,?_,?_⟩⟩,fun g' hg'=>by cases hg';exact hSg' g rfl⟩
 ·rw [List.size_toArray]
  simp only [QQ7,List.length_take,List.length_drop,hcl]
  rw [hcs] at hfits
  omega
 rw [hlen',List.append_assoc,List.take_append_of_le_length (by rw [List.length_take,hcl];have:=Nat.mul_le_mul_right ie.size (show i<=c by omega);omega),List.take_take,Nat.min_self]
 have h2:(ls.take i).flatten.length=i*ie.size:=by rw [Qcg _ hk1,hlen']
 have h3:cur.toList.take (i*ie.size)=(cur.toList.take (ls.length*ie.size)).take (i*ie.size):=by rw [List.take_take,Nat.min_eq_left (Nat.mul_le_mul_right _ hi)]
 have hfl:ls.flatten=(ls.take i).flatten++(ls.drop i).flatten:=by rw [← List.flatten_append,List.take_append_drop]
 rw [h3,htake,hfl,List.take_left' h2]
end
end Go.Vx
namespace Go.Vx
open Go.RowKit
def Qev (w:World) (v:Value):Prop:=∃ b n c cur T,v = .slice (some ⟨b,0,none⟩) n c/\w.heap[b]?=some (.cells cur T (0,0))
theorem Qev.own {w0 w:World} {M:Nat->Prop} {L:List Res} {v:Value} (h:Qev w0 v) (hs:Own w0 M w L) (hm:¬M (bkS v)):Qev w v:=by
 obtain ⟨b,n,c,cur,T,rfl,hb⟩:=h
 refine ⟨b,n,c,cur,T,rfl,?_⟩
 rw [hs.old b (Array.getElem?_eq_some_iff.1 hb).1 hm]
 exact hb
section
variable {P:Program} {ty:TypeId} {e:Operand->Value} {w:World} {K:Value->World->Prop} {w0:World} {M:Nat->Prop} {L:List Res}
theorem Own.plain {n:Nat} {v:Value} {ls:List (List Value)} {E k:Nat} (hs:Own w0 M w L) (i:Nat) (hi:L[i]?=some (row v ls E k)) (h0:0<ls.length) (hn:n=ls.length):Qev w v/\True:=by
 obtain ⟨S,⟨_,hown,hSg⟩,hlt,_⟩:=hs.get i hi
 rcases hown.2 with ⟨hv,hn0⟩|⟨g,cap,cur,hv,h0g,hg,_⟩
 ·omega
 exact ⟨⟨g,_,cap,cur,E,hv,hg⟩,trivial⟩
theorem Own.lendD (hs:Own w0 M w L) (i j:Nat) (hij:i≠j) {R:Res} (hi:L[i]?=some R) {v:Value} {ls:List (List Value)} {E k:Nat} (hj:L[j]?=some (row v ls E k)) (h0:0<ls.length) :
  ∃ S,R.holds w S/\(∀ b,S b->b<w.heap.size)/\¬S (bkS v)/\Qev w v/\∀ w' R' L',Own w S w' (R' :: L')->Own w0 M w' (L.set i R'++L'):=by
 obtain ⟨S,h1,h2,_,h4,h5⟩:=hs.lend3 i hi
 obtain ⟨Sj,hj1,hj2⟩:=h4 j (fun e=>hij e.symm) _ hj
 have hp:=(hs.plain j hj h0 rfl).1
 refine ⟨S,h1,h2,fun hb=>hj2 _ hb ?_,hp,h5⟩
 obtain ⟨b,n,c,cur,T,rfl,_⟩:=hp
 exact hj1.2.2 b rfl
theorem QnU {α:Type} {f:FuncId} {xs:List Operand} {vs:List Value} {ats:Array TypeId} {V:α->Value} {R:Res} {R':α->Res} {Lo:α->List Res} {F:α->World->Prop} {v:Value} {ls:List (List Value)} {E k:Nat} (hf:En P f) (hef:e (.func f) = .func (.func f) #[] #[]) (hv:xs.map e=vs)
  (hs:Own w0 M w L) (i j:Nat) (hij:i≠j) (hi:L[i]?=some R) (hj:L[j]?=some (row v ls E k)) (h0:0<ls.length)
  (hc:∀ S,R.holds w S->(∀ b,S b->b<w.heap.size)->¬S (bkS v)->Qev w v->Calls P f vs.toArray w fun r w'=>∃ x,r = .returned (V x)/\Own w S w' (R' x :: Lo x)/\F x w') (h:∀ x w',Own w0 M w' (L.set i (R' x)++Lo x)->F x w'->K (V x) w') :
  opW P (.call { callee:=.value (.func f),args:=xs.toArray,argTypes:=ats }) ty e w K:=by
 obtain ⟨S,hR,hlt,hn,hp,hback⟩:=hs.lendD i j hij hi hj h0
 exact Qe6 hf hef (by rw [List.map_toArray,hv]) ((hc S hR hlt hn hp).mono fun r w' ⟨x,hr,ho,hF⟩=>⟨V x,hr,h x w' (hback w' _ _ ho) hF⟩)
theorem Qn3 {f:FuncId} {fn:Func} {tS tR el k E lo m cc n c:Nat} {x y:Operand} {v:Value} {a:Option Addr} {ls:List (List Value)} {ats:Array TypeId} (hf:P.funcs[f]?=some fn) (hname:(fn.name == "runtime.NumGoroutine")=false) (hb:fn.body.isNone=true) (hn:Extern.findNext fn=none) (he:Extern.find fn=some (Extern.SlicesOverlaps.overlaps #[tS,tS] #[tR]))
  (ht:P.underlying tS=some (.slice el)) (hk:Sz P el k) (hef:e (.func f) = .func (.func f) #[] #[]) (hs:Own w0 M w L) (j:Nat) (hj:L[j]?=some (row (.slice a n c) ls E k)) (h0:0<ls.length) (hk0:0<k) (hx:e x=v) (hv:Qev w v) (hM:¬M (bkS v)) (hvl:bkS v<w0.heap.size) (hlo:lo<c) (hy:e y = .slice (sla a lo c k) m cc)
  (h:K (.bool false) w):opW P (.call { callee:=.value (.func f),args:=[x,y].toArray,argTypes:=ats }) ty e w K:=by
 obtain ⟨S,⟨_,hown,hSg⟩,hlt,hSM⟩:=hs.get j hj
 obtain ⟨b,nv,cv,cur2,T2,rfl,hb2⟩:=hv
 rcases hown.2 with ⟨hv,hn0⟩|⟨g,cap,cur,hv,h0g,hg,hnc,hcm,hcs,_⟩
 ·omega
 cases hv
 have hgM:g<w0.heap.size->M g:=fun h=>hSM g (hSg g rfl) h
 have hne:b≠g:=fun e=>by subst e;exact hM (hgM hvl)
 rw [QoY hlo,Nat.zero_add] at hy
 have hrun:=Lib.run_overlaps_apart (P:=P) w tS tR el ht k hk ⟨b,0,none⟩ ⟨g,lo*k,none⟩ nv cv m cc hne T2 E cur2.size cur.size (by simp [World.shape?,hb2]) (by simp [World.shape?,hg])
  (by rw [hcs];have:0<c*k:=Nat.mul_pos (by omega) hk0;omega) (by simp [World.frozen?,hb2]) (by simp [World.frozen?,hb2])
 refine Qa6 (w':=w) ?_ h
 simp only [execOp,resolve,List.map_toArray,List.map_cons,List.map_nil,hx,hy,hef,Deferred.ofValue,Sem.run_bind,Sem.run_pure,Result.andThen_ok,invoke,Array.empty_append,Array.append_empty]
 rw [run_callFunc_extern hf hname hb hn he]
 have e2:(#[]++#[Value.slice (some ⟨b,0,none⟩) nv cv,Value.slice (some ⟨g,lo*k,none⟩) m cc]++#[]:Array Value) = #[Value.slice (some ⟨b,0,none⟩) nv cv,Value.slice (some ⟨g,lo*k,none⟩) m cc]:=rfl
 simp [hrun]
end
end Go.Vx
namespace Go.Vx
theorem Qev.lt {w:World} {v:Value} (h:Qev w v):bkS v<w.heap.size:=by
 obtain ⟨b,n,c,cur,T,rfl,hb⟩:=h
 exact (Array.getElem?_eq_some_iff.1 hb).1
end Go.Vx
namespace Go.Vx
open Go.RowKit
section
variable {P:Program} {ty:TypeId} {e:Operand->Value} {w:World} {K:Value->World->Prop} {w0:World} {M:Nat->Prop} {L:List Res}
theorem Qwi {t u d:TypeId} {x y:Operand} {a:Option Addr} {n c:Nat} (ht:P.underlying t=some (.slice d)) (hx:e x = .slice a n c) (hy:e y = .slice none 0 0) (h:K (.bool a.isNone) w):opW P (.binOp .eql t x y u) ty e w K:=by
 refine Qa6 (w':=w) ?_ h
 simp only [execOp,hx,hy,eqGuard_at_slice,Sem.run_bind,Sem.run_pure,Result.andThen_ok,binOp,run_equal_slice_nil w t d a n c ht]
end
theorem Rd.isN {α:Type} {enc:α->List Value} {l:List α} {w:World} {a:Option Addr} {n c k:Nat} (h:Rd w (.slice a n c) k (l.map enc)) (ha:a.isNone=true):l=[]:=by
 rcases h.shape with ⟨_,h2⟩|⟨b,o,c',h2⟩
 ·simpa using h2
 cases h2;cases ha
end Go.Vx
namespace Go.Vx
theorem Qnl {P:Program} {t:Nat} {v z:Value} (h:Zv P t v) (hz:Zv P t z):v=z:=by
 have h1:=h default
 rw [hz default] at h1
 cases h1;rfl
end Go.Vx
namespace Go.Vx
section
variable {α:Type} [Inhabited α]
def swL (l:List α) (i j:Nat):List α:=(l.set i (gd l j)).set j (gd l i)
theorem Qif {l:List α} {i j:Nat}:(swL l i j).length=l.length:=by simp [swL]
theorem Qh0 {A M B:List α} {x y:α} {i j:Nat} (hi:i=A.length) (hj:j=A.length+1+M.length):swL (A++x :: (M++y :: B)) i j=A++y :: (M++x :: B):=by
 subst hi
 subst hj
 unfold swL gd
 have h1:(A++x :: (M++y :: B))[A.length]?=some x:=by simp
 have h2:(A++x :: (M++y :: B))[A.length+1+M.length]?=some y:=by
  rw [List.getElem?_append_right (by omega),show A.length+1+M.length-A.length=M.length+1 by omega,List.getElem?_cons_succ,List.getElem?_append_right (by omega)];simp
 rw [List.getD_eq_getElem?_getD,List.getD_eq_getElem?_getD,h1,h2]
 simp only [Option.getD_some]
 rw [List.set_append_right _ _ (by omega),Nat.sub_self,List.set_cons_zero,List.set_append_right _ _ (by omega),show A.length+1+M.length-A.length=M.length+1 by omega,List.set_cons_succ,List.set_append_right _ _ (by omega),Nat.sub_self,List.set_cons_zero]
def swR (A U M V B:List α) (k:Nat):List α:=A++(V.take k++U.drop k)++M++(U.take k++V.drop k)++B
omit [Inhabited α] in
theorem Qrf {A U M V B:List α}:swR A U M V B 0=A++U++M++V++B:=by simp [swR]
omit [Inhabited α] in
theorem QtX {A U M V B:List α} (h:U.length=V.length):swR A U M V B U.length=A++V++M++U++B:=by
 unfold swR
 rw [List.take_length,List.drop_length,h,List.take_length,List.drop_length];simp
theorem Qpi {A U M V B:List α} {k i j:Nat} (h:U.length=V.length) (hk:k<U.length) (hi:i=A.length+k) (hj:j=A.length+U.length+M.length+k):swL (swR A U M V B k) i j=swR A U M V B (k+1):=by
 have hu:U.drop k=U[k] :: U.drop (k+1):=List.drop_eq_getElem_cons hk
 have hv:V.drop k=V[k]'(by omega) :: V.drop (k+1):=List.drop_eq_getElem_cons (by omega)
 have hut:U.take (k+1)=U.take k++[U[k]]:=(List.take_append_getElem hk).symm
 have hvt:V.take (k+1)=V.take k++[V[k]'(by omega)]:=(List.take_append_getElem (by omega)).symm
 have e1:swR A U M V B k=(A++V.take k)++U[k] :: ((U.drop (k+1)++M++U.take k)++V[k]'(by omega) :: (V.drop (k+1)++B)):=by
  unfold swR;rw [hu,hv];simp only [List.append_assoc,List.cons_append]
 have e2:swR A U M V B (k+1)=(A++V.take k)++V[k]'(by omega) :: ((U.drop (k+1)++M++U.take k)++U[k] :: (V.drop (k+1)++B)):=by
  unfold swR;rw [hut,hvt];simp only [List.append_assoc,List.cons_append,List.nil_append]
 rw [e1,e2]
 refine Qh0 ?_ ?_
 ·rw [QQ7,List.length_take];omega
 simp only [QQ7,List.length_take,List.length_drop];omega
end
end Go.Vx
namespace Go.Vx
section
variable {α:Type} [Inhabited α]
structure CmpO (cf:α->α->Int):Prop where
 irr:∀ x,¬cf x x<0
 tot:∀ x y,cf x y<0->¬cf y x<0
 tr:∀ x y z,¬cf y x<0->¬cf z y<0->¬cf z x<0
def Qmp (cf:α->α->Int) (l:List α):Prop:=l.Pairwise fun x y=>¬cf y x<0
variable {cf:α->α->Int}
omit [Inhabited α] in
theorem QnP {X Y:List α} (h:Qmp cf (X++Y)):Qmp cf X/\Qmp cf Y/\∀ x∈X,∀ y∈Y,¬cf y x<0:=List.pairwise_append.1 h
theorem QdL {l m:List α} {i:Nat} (h:i<l.length):gd (l++m) i=gd l i:=by simp [gd,List.getElem?_append_left h]
theorem QdK {l m:List α} {i:Nat} (h:l.length<=i):gd (l++m) i=gd m (i-l.length):=by simp [gd,List.getElem?_append_right h]
theorem Qvp {l:List α} (h:Qmp cf l) {i j:Nat} (hij:i<j) (hj:j<l.length):¬cf (gd l j) (gd l i)<0:=by
 have:=List.pairwise_iff_getElem.1 h i j (by omega) hj hij
 simpa [gd,hj,show i<l.length by omega] using this
theorem Qf8 {l:List α} {x:α} (h:x∈l):∃ i,i<l.length/\gd l i=x:=by
 obtain ⟨i,hi,rfl⟩:=List.mem_iff_getElem.1 h
 exact ⟨i,hi,by simp [gd,hi]⟩
def Qbj (l l2:List α) (a b:Nat):Prop:=∃ A X Z B,l=A++X++B/\l2=A++Z++B/\A.length=a/\a+X.length=b/\Z.Perm X
omit [Inhabited α] in
theorem Qbj.len {l l2:List α} {a b:Nat} (h:Qbj l l2 a b):l2.length=l.length:=by
 obtain ⟨A,X,Z,B,rfl,rfl,_,_,hp⟩:=h
 simp [hp.length_eq]
omit [Inhabited α] in
theorem Qbj.perm {l l2:List α} {a b:Nat} (h:Qbj l l2 a b):l2.Perm l:=by
 obtain ⟨A,X,Z,B,rfl,rfl,_,_,hp⟩:=h
 exact (hp.append_left A).append_right B
omit [Inhabited α] in
theorem Qt7 (l:List α) {a b:Nat} (h:a<=b) (hb:b<=l.length):l=l.take a++(l.take b).drop a++l.drop b/\(l.take a).length=a/\a+((l.take b).drop a).length=b:=by
 refine ⟨?_,by rw [List.length_take];omega,by rw [List.length_drop,List.length_take];omega⟩
 have e:l.take a=(l.take b).take a:=by rw [List.take_take];congr 1;omega
 rw [e,List.take_append_drop,List.take_append_drop]
omit [Inhabited α] in
theorem Qbj.refl (l:List α) {a b:Nat} (h:a<=b) (hb:b<=l.length):Qbj l l a b:=by
 obtain ⟨h1,h2,h3⟩:=Qt7 l h hb
 exact ⟨_,_,_,_,h1,h1,h2,h3,List.Perm.refl _⟩
omit [Inhabited α] in
theorem QqH {A X B A2 X2 B2:List α} (h:A++X++B=A2++X2++B2) (h1:A.length=A2.length) (h2:X.length=X2.length):A=A2/\X=X2/\B=B2:=by
 rw [List.append_assoc,List.append_assoc] at h
 obtain ⟨e1,e2⟩:=List.append_inj h h1
 obtain ⟨e3,e4⟩:=List.append_inj e2 h2
 exact ⟨e1,e3,e4⟩
omit [Inhabited α] in
theorem Qbj.trans {l m n:List α} {a b:Nat} (h:Qbj l m a b) (g:Qbj m n a b):Qbj l n a b:=by
 obtain ⟨A,X,Z,B,rfl,rfl,ha,hb,hp⟩:=h
 obtain ⟨A2,X2,Z2,B2,e,rfl,ha2,hb2,hp2⟩:=g
 have hz:=hp.length_eq
 obtain ⟨rfl,rfl,rfl⟩:=QqH e (by omega) (by omega)
 exact ⟨_,_,_,_,rfl,rfl,ha,hb,hp2.trans hp⟩
omit [Inhabited α] in
theorem Qbj.wide {l m:List α} {a b a2 b2:Nat} (h:Qbj l m a b) (h1:a2<=a) (h2:b<=b2) (h3:b2<=l.length):Qbj l m a2 b2:=by
 obtain ⟨A,X,Z,B,rfl,rfl,rfl,rfl,hp⟩:=h
 have hz:=hp.length_eq
 simp only [QQ7] at h3
 refine ⟨A.take a2,A.drop a2++X++B.take (b2-(A.length+X.length)),A.drop a2++Z++B.take (b2-(A.length+X.length)),B.drop (b2-(A.length+X.length)),?_,?_,by rw [List.length_take];omega,by simp only [QQ7,List.length_drop,List.length_take];omega,(hp.append_left _).append_right _⟩
 ·have e1:=List.take_append_drop a2 A
  have e2:=List.take_append_drop (b2-(A.length+X.length)) B
  calc A++X++B=(A.take a2++A.drop a2)++X++(B.take (b2-(A.length+X.length))++B.drop (b2-(A.length+X.length))):=by rw [e1,e2]
   _=_:=by simp only [List.append_assoc]
 have e1:=List.take_append_drop a2 A
 have e2:=List.take_append_drop (b2-(A.length+X.length)) B
 calc A++Z++B=(A.take a2++A.drop a2)++Z++(B.take (b2-(A.length+X.length))++B.drop (b2-(A.length+X.length))):=by rw [e1,e2]
  _=_:=by simp only [List.append_assoc]
theorem Qbj.out {l m:List α} {a b i:Nat} (h:Qbj l m a b) (hi:i<a∨b<=i):gd m i=gd l i:=by
 obtain ⟨A,X,Z,B,rfl,rfl,rfl,rfl,hp⟩:=h
 have hz:=hp.length_eq
 rcases hi with hi|hi
 ·rw [List.append_assoc,List.append_assoc,QdL hi,QdL hi]
 rw [QdK (by simp only [QQ7];omega),QdK (by simp only [QQ7];omega)]
 simp only [QQ7];congr 1;omega
def Qbt (cf:α->α->Int) (l:List α) (a b:Nat):Prop:=∀ i j,a<=i->i<j->j<b->¬cf (gd l j) (gd l i)<0
theorem Qbt.out {l m:List α} {a b c d:Nat} (h:Qbt cf l a b) (g:Qbj l m c d) (hd:b<=c∨d<=a):Qbt cf m a b:=by
 intro i j hi hij hj
 rw [g.out (by omega),g.out (by omega)]
 exact h i j hi hij hj
theorem Qbt.sub {l:List α} {a b c d:Nat} (h:Qbt cf l a b) (h1:a<=c) (h2:d<=b):Qbt cf l c d:=fun i j hi hij hj=>h i j (by omega) hij (by omega)
theorem Qbt.small {l:List α} {a b:Nat} (h:b<=a+1):Qbt cf l a b:=fun i j hi hij hj=>by omega
theorem Qbj.from {l m:List α} {a b i:Nat} (h:Qbj l m a b) (h1:a<=i) (h2:i<b):∃ k,a<=k/\k<b/\gd m i=gd l k:=by
 obtain ⟨A,X,Z,B,rfl,rfl,rfl,rfl,hp⟩:=h
 have hz:=hp.length_eq
 have e1:gd (A++Z++B) i=gd Z (i-A.length):=by rw [List.append_assoc,QdK (by omega),QdL (by omega)]
 have hm:gd Z (i-A.length)∈Z:=Qbo (by omega)
 obtain ⟨k,hk,e⟩:=Qf8 (hp.mem_iff.1 hm)
 refine ⟨A.length+k,by omega,by omega,?_⟩
 rw [e1,← e,List.append_assoc,QdK (by omega),QdL (by omega)]
 congr 1;omega
theorem Qfo {l:List α} {a m b:Nat} (h1:Qbt cf l a m) (h2:Qbt cf l m b) (h:∀ i j,a<=i->i<m->m<=j->j<b->¬cf (gd l j) (gd l i)<0):Qbt cf l a b:=by
 intro i j hi hij hj
 by_cases e:j<m
 ·exact h1 i j hi hij e
 by_cases e2:i<m
 ·exact h i j hi e2 (by omega) hj
 exact h2 i j (by omega) hij hj
end
end Go.Vx
namespace Go.Vx
section
variable {α:Type} [Inhabited α] {cf:α->α->Int}
def swN (l:List α) (p q n:Nat):List α:=(List.range n).foldl (fun l k=>swL l (p+k) (q+k)) l
theorem QqE (l:List α) (p q:Nat):swN l p q 0=l:=rfl
theorem Qlp (l:List α) (p q n:Nat):swN l p q (n+1)=swL (swN l p q n) (p+n) (q+n):=by unfold swN;rw [List.range_succ,List.foldl_append];rfl
theorem Qf6 {A U M V B:List α} (h:U.length=V.length):swN (A++U++M++V++B) A.length (A.length+U.length+M.length) U.length=A++V++M++U++B:=by
 have:∀ k,k<=U.length->swN (A++U++M++V++B) A.length (A.length+U.length+M.length) k=swR A U M V B k:=by
  intro k
  induction k with
  | zero=>intro _;rw [QqE,Qrf]
  | succ k ih =>
   intro hk
   rw [Qlp,ih (by omega)]
   exact Qpi h (by omega) rfl (by omega)
 rw [this _ (Nat.le_refl _),QtX h]
def Qcf (l l2:List α) (a m b:Nat):Prop:=∃ A X Y B,l=A++X++Y++B/\l2=A++Y++X++B/\A.length=a/\a+X.length=m/\m+Y.length=b
omit [Inhabited α] in
theorem Qcf.perm {l l2:List α} {a m b:Nat} (h:Qcf l l2 a m b):Qbj l l2 a b:=by
 obtain ⟨A,X,Y,B,rfl,rfl,ha,hm,hb⟩:=h
 exact ⟨A,X++Y,Y++X,B,by simp only [List.append_assoc],by simp only [List.append_assoc],ha,by simp only [QQ7];omega,List.perm_append_comm⟩
theorem Qcf.at_l {l l2:List α} {a m b i:Nat} (h:Qcf l l2 a m b) (h1:a<=i) (h2:i<a+(b-m)):gd l2 i=gd l (m+(i-a)):=by
 obtain ⟨A,X,Y,B,rfl,rfl,rfl,rfl,rfl⟩:=h
 have e1:gd (A++Y++X++B) i=gd Y (i-A.length):=by rw [List.append_assoc,List.append_assoc,QdK (by omega),QdL (by omega)]
 have e2:gd (A++X++Y++B) (A.length+X.length+(i-A.length))=gd Y (i-A.length):=by
  rw [List.append_assoc,QdK (by simp only [QQ7];omega),QdL (by simp only [QQ7];omega)]
  simp only [QQ7];congr 1;omega
 rw [e1,e2]
theorem Qcf.at_r {l l2:List α} {a m b i:Nat} (h:Qcf l l2 a m b) (h1:a+(b-m)<=i) (h2:i<b):gd l2 i=gd l (i-(b-m)):=by
 obtain ⟨A,X,Y,B,rfl,rfl,rfl,rfl,rfl⟩:=h
 have e1:gd (A++Y++X++B) i=gd X (i-A.length-Y.length):=by
  rw [List.append_assoc,QdK (by simp only [QQ7];omega),QdL (by simp only [QQ7];omega)]
  simp only [QQ7];congr 1;omega
 have e2:gd (A++X++Y++B) (i-(A.length+X.length+Y.length-(A.length+X.length)))=gd X (i-A.length-Y.length):=by
  rw [List.append_assoc,List.append_assoc,QdK (by omega),QdL (by omega)]
  congr 1;omega
 rw [e1,e2]
omit [Inhabited α] in
theorem Qcf.refl {l:List α} {a m b:Nat} (h1:a<=m) (h2:m<=b) (h3:b<=l.length) (h:a=m∨m=b):Qcf l l a m b:=by
 obtain ⟨e1,e2,e3⟩:=Qt7 l h1 (Nat.le_trans h2 h3)
 obtain ⟨f1,f2,f3⟩:=Qt7 l h2 h3
 obtain ⟨g1,g2,g3⟩:=Qt7 l (Nat.le_trans h1 h2) h3
 rcases h with h|h
 ·subst h
  exact ⟨_,[],_,_,by simpa using g1,by simpa using g1,g2,by simp,g3⟩
 subst h
 exact ⟨_,_,[],_,by simpa using e1,by simpa using e1,e2,e3,by simp⟩
def Qjl (l t:List α) (m i j:Nat):Prop:=∃ A U V B,l=A++U++V++B/\t=A++V++U++B/\A.length+U.length=m/\U.length=i/\V.length=j
omit [Inhabited α] in
theorem Qkb {l:List α} {a m b:Nat} (h1:a<=m) (h2:m<=b) (h3:b<=l.length):∃ t,Qcf l t a m b/\Qjl l t m (m-a) (b-m):=by
 obtain ⟨e1,e2,e3⟩:=Qt7 l h1 (Nat.le_trans h2 h3)
 obtain ⟨f1,f2,f3⟩:=Qt7 (l.drop m) (Nat.zero_le (b-m)) (by rw [List.length_drop];omega)
 simp only [List.take_zero,List.drop_zero,List.nil_append,List.length_nil,Nat.zero_add] at f1 f2 f3
 refine ⟨l.take a++(l.drop m).take (b-m)++(l.take m).drop a++(l.drop m).drop (b-m),⟨l.take a,(l.take m).drop a,(l.drop m).take (b-m),(l.drop m).drop (b-m),?_,rfl,e2,e3,by omega⟩,⟨l.take a,(l.take m).drop a,(l.drop m).take (b-m),(l.drop m).drop (b-m),?_,rfl,by omega,by omega,by omega⟩⟩
 ·rw [List.append_assoc _ _ (List.drop _ (List.drop m l)),← f1];exact e1
 rw [List.append_assoc _ _ (List.drop _ (List.drop m l)),← f1];exact e1
theorem QqZ {l t:List α} {m i j:Nat} (h:Qjl l t m i j) (hij:j<i):Qjl (swN l (m-i) m j) t m (i-j) j:=by
 obtain ⟨A,U,V,B,rfl,rfl,rfl,rfl,rfl⟩:=h
 have hu:=List.take_append_drop V.length U
 have h1:(U.take V.length).length=V.length:=by rw [List.length_take];omega
 have h2:(U.drop V.length).length=U.length-V.length:=List.length_drop
 refine ⟨A++V,U.drop V.length,U.take V.length,B,?_,?_,by rw [QQ7];omega,h2,h1⟩
 ·have:=Qf6 (A:=A) (U:=U.take V.length) (M:=U.drop V.length) (V:=V) (B:=B) h1
  rw [h1,h2,show A.length+V.length+(U.length-V.length)=A.length+U.length by omega] at this
  rw [show A.length+U.length-U.length=A.length by omega]
  rw [← this,List.append_assoc A (U.take V.length),hu]
 rw [List.append_assoc (A++V) (U.take V.length),hu]
theorem Qpt {l t:List α} {m i j:Nat} (h:Qjl l t m i j) (hij:i<j):Qjl (swN l (m-i) (m+j-i) i) t m i (j-i):=by
 obtain ⟨A,U,V,B,rfl,rfl,rfl,rfl,rfl⟩:=h
 have hv:=List.take_append_drop (V.length-U.length) V
 have h1:(V.take (V.length-U.length)).length=V.length-U.length:=by rw [List.length_take];omega
 have h2:(V.drop (V.length-U.length)).length=U.length:=by rw [List.length_drop];omega
 refine ⟨A,V.drop (V.length-U.length),V.take (V.length-U.length),U++B,?_,?_,by omega,h2,h1⟩
 ·have:=Qf6 (A:=A) (U:=U) (M:=V.take (V.length-U.length)) (V:=V.drop (V.length-U.length)) (B:=B) (by omega)
  rw [h1,show A.length+U.length+(V.length-U.length)=A.length+U.length+V.length-U.length by omega] at this
  rw [show A.length+U.length-U.length=A.length by omega,← List.append_assoc,← this,List.append_assoc (A++U) (V.take _),hv]
 rw [← List.append_assoc,List.append_assoc A (V.take _),hv]
theorem Qq3 {l t:List α} {m i j:Nat} (h:Qjl l t m i j) (hij:i=j):swN l (m-i) m i=t:=by
 obtain ⟨A,U,V,B,rfl,rfl,rfl,rfl,rfl⟩:=h
 have:=Qf6 (A:=A) (U:=U) (M:=[]) (V:=V) (B:=B) hij
 simp only [List.append_nil,List.length_nil,Nat.add_zero] at this
 rw [show A.length+U.length-U.length=A.length by omega,this]
omit [Inhabited α] in
theorem QiU {l t:List α} {m i j:Nat} (h:Qjl l t m i j):m+j<=l.length/\i<=m:=by
 obtain ⟨A,U,V,B,rfl,rfl,rfl,rfl,rfl⟩:=h
 simp only [QQ7];omega
theorem QuN {l l1:List α} {a k:Nat} (h:Qcf l l1 a (a+1) (k+1)) (hk:k+1<l.length):Qcf l (swL l1 k (k+1)) a (a+1) (k+2):=by
 obtain ⟨A,X,Y,B,rfl,rfl,rfl,hX,hY⟩:=h
 have hX1:X.length=1:=by omega
 obtain ⟨x,rfl⟩:=List.length_eq_one_iff.1 hX1
 simp only [QQ7,List.length_cons,List.length_nil] at hk
 cases B with
 | nil=>simp at hk;omega
 | cons y B =>
  refine ⟨A,[x],Y++[y],B,by simp only [List.append_assoc,List.cons_append,List.nil_append],?_,rfl,hX,by simp only [QQ7,List.length_cons,List.length_nil];omega⟩
  have:=Qh0 (A:=A++Y) (M:=[]) (B:=B) (x:=x) (y:=y) (i:=k) (j:=k+1) (by rw [QQ7];omega) (by rw [QQ7,List.length_nil];omega)
  simp only [List.nil_append] at this
  rw [show A++Y++[x]++y :: B=A++Y++x :: y :: B by simp only [List.append_assoc,List.cons_append,List.nil_append],this]
  simp only [List.append_assoc,List.cons_append,List.nil_append]
theorem Qla {l:List α} {i j:Nat}:swL l i j=swL l j i:=by
 unfold swL
 by_cases e:i=j
 ·subst e;rfl
 rw [List.set_comm _ _ e]
theorem QpI {l l1:List α} {k m:Nat} (h:Qcf l l1 k m (m+1)) (hk:0<k):Qcf l (swL l1 k (k-1)) (k-1) m (m+1):=by
 have hlen:=h.perm.len
 obtain ⟨A,X,Y,B,rfl,rfl,rfl,hX,hY⟩:=h
 have hY1:Y.length=1:=by omega
 obtain ⟨y,rfl⟩:=List.length_eq_one_iff.1 hY1
 obtain ⟨D,z,rfl⟩:∃ D z,A=D++[z]:=⟨A.dropLast,_,(List.dropLast_concat_getLast (l:=A) (by intro e;subst e;simp at hk)).symm⟩
 rw [Qla]
 simp only [QQ7,List.length_cons,List.length_nil] at hX ⊢
 refine ⟨D,z :: X,[y],B,by simp only [List.append_assoc,List.cons_append,List.nil_append],?_,by omega,by simp only [List.length_cons];omega,by simp⟩
 have:=Qh0 (A:=D) (M:=[]) (B:=X++B) (x:=z) (y:=y) (i:=D.length) (j:=D.length+1) rfl (by rw [List.length_nil])
 simp only [List.nil_append] at this
 rw [show D++[z]++[y]++X++B=D++z :: y :: (X++B) by simp only [List.append_assoc,List.cons_append,List.nil_append]]
 rw [show D.length+(0+1)-1=D.length by omega,show D.length+(0+1)=D.length+1 by omega,this]
 simp only [List.append_assoc,List.cons_append,List.nil_append]
theorem QfT {l l2:List α} {a s m e b:Nat} (hc:CmpO cf) (h1:Qbt cf l a m) (h2:Qbt cf l m b) (ha:a<=s) (hs:s<=m) (he:m<=e) (hb:e<=b) (hr:Qcf l l2 s m e)
  (g1:s=a∨e=b∨¬cf (gd l e) (gd l (s-1))<0) (g2:s=m∨e=m∨cf (gd l (e-1)) (gd l s)<0) :
  Qbt cf l2 a s/\Qbt cf l2 s (s+(e-m))/\Qbt cf l2 (s+(e-m)) e/\Qbt cf l2 e b/\∀ i j,a<=i->i<s+(e-m)->s+(e-m)<=j->j<b->¬cf (gd l2 j) (gd l2 i)<0:=by
 have ho:=hr.perm
 refine ⟨(h1.sub (Nat.le_refl _) hs).out ho (.inl (Nat.le_refl _)),?_,?_,(h2.sub he (Nat.le_refl _)).out ho (.inr (Nat.le_refl _)),?_⟩
 ·intro i j hi hij hj
  rw [hr.at_l hi (by omega),hr.at_l (by omega) hj]
  exact h2 _ _ (by omega) (by omega) (by omega)
 ·intro i j hi hij hj
  rw [hr.at_r hi (by omega),hr.at_r (by omega) hj]
  exact h1 _ _ (by omega) (by omega) (by omega)
 have le1:∀ i j,a<=i->i<=j->j<m->¬cf (gd l j) (gd l i)<0:=fun i j hi hij hj=>by
  rcases Nat.lt_or_eq_of_le hij with q|q
  ·exact h1 i j hi q hj
  subst q;exact hc.irr _
 have le2:∀ i j,m<=i->i<=j->j<b->¬cf (gd l j) (gd l i)<0:=fun i j hi hij hj=>by
  rcases Nat.lt_or_eq_of_le hij with q|q
  ·exact h2 i j hi q hj
  subst q;exact hc.irr _
 intro i j hi hi2 hj hj2
 by_cases c1:i<s
 ·rw [ho.out (.inl c1)]
  by_cases c2:j<e
  ·rw [hr.at_r hj c2];exact le1 _ _ hi (by omega) (by omega)
  rw [ho.out (.inr (by omega))]
  rcases g1 with g|g|g
  ·omega
  ·omega
  exact hc.tr _ _ _ (le1 i (s-1) hi (by omega) (by omega)) (hc.tr _ _ _ g (le2 e j (by omega) (by omega) hj2))
 rw [hr.at_l (by omega) hi2]
 by_cases c2:j<e
 ·rw [hr.at_r hj c2]
  rcases g2 with g|g|g
  ·omega
  ·omega
  exact hc.tr _ _ _ (le2 _ (e-1) (by omega) (by omega) (by omega)) (hc.tr _ _ _ (hc.tot _ _ g) (le1 s _ (by omega) (by omega) (by omega)))
 rw [ho.out (.inr (by omega))];exact le2 _ _ (by omega) (by omega) hj2
def Merged (cf:α->α->Int) (l l2:List α) (a b:Nat):Prop:=Qbj l l2 a b/\Qbt cf l2 a b
theorem QpV {l l2 l3 l4:List α} {a mid b:Nat} (h2:Qbj l l2 a b) (h3:Merged cf l2 l3 a mid) (h4:Merged cf l3 l4 mid b) (ham:a<=mid) (hmb:mid<=b) (hb:b<=l.length)
  (hx:∀ i j,a<=i->i<mid->mid<=j->j<b->¬cf (gd l2 j) (gd l2 i)<0):Merged cf l l4 a b:=by
 have e2:=h2.len
 have e3:=h3.1.len
 refine ⟨(h2.trans (h3.1.wide (Nat.le_refl _) hmb (by omega))).trans (h4.1.wide ham (Nat.le_refl _) (by omega)),Qfo (h3.2.out h4.1 (.inl (Nat.le_refl _))) h4.2 ?_⟩
 intro i j hi hi2 hj hj2
 obtain ⟨k,k1,k2,ek⟩:=h4.1.from hj hj2
 rw [h4.1.out (.inl hi2),ek,h3.1.out (i:=k) (.inr k1)]
 obtain ⟨q,q1,q2,eq⟩:=h3.1.from hi hi2
 rw [eq]
 exact hx q k q1 q2 k1 k2
theorem QvB {l l2:List α} {a b i:Nat} (hc:CmpO cf) (h2:Qbt cf l (a+1) b) (hi:a+1<=i) (hib:i<=b) (hbl:b<=l.length) (hr:Qcf l l2 a (a+1) i)
  (g1:i=b∨¬cf (gd l i) (gd l a)<0) (g2:i=a+1∨cf (gd l (i-1)) (gd l a)<0):Merged cf l l2 a b:=by
 obtain ⟨_,k2,k3,k4,k5⟩:=QfT hc (Qbt.small (Nat.le_refl _)) h2 (Nat.le_refl a) (Nat.le_succ a) hi hib hr (.inl rfl) (by rcases g2 with g|g;exact .inr (.inl g);exact .inr (.inr g))
 refine ⟨hr.perm.wide (Nat.le_refl _) hib hbl,Qfo k2 (Qfo k3 k4 ?_) k5⟩
 intro p q hp hp2 hq hq2
 have ep:p=a+(i-(a+1)):=by omega
 rw [hr.at_r hp hp2,hr.perm.out (.inr hq),show p-(i-(a+1))=a by omega]
 rcases g1 with g|g
 ·omega
 rcases Nat.lt_or_eq_of_le hq with e|e
 ·exact hc.tr _ _ _ g (h2 i q (by omega) e hq2)
 subst e;exact g
theorem QqD {l l2:List α} {a m i:Nat} (hc:CmpO cf) (h1:Qbt cf l a m) (hi:a<=i) (him:i<=m) (hbl:m+1<=l.length) (hr:Qcf l l2 i m (m+1))
  (g1:i=a∨¬cf (gd l m) (gd l (i-1))<0) (g2:i=m∨cf (gd l m) (gd l i)<0):Merged cf l l2 a (m+1):=by
 obtain ⟨k1,k2,k3,_,k5⟩:=QfT hc h1 (Qbt.small (Nat.le_refl _)) hi him (Nat.le_succ m) (Nat.le_refl _) hr (.inr (.inl rfl)) (by rcases g2 with g|g;exact .inl g;exact .inr (.inr (by simpa using g)))
 refine ⟨hr.perm.wide hi (Nat.le_refl _) hbl,Qfo (Qfo k1 k2 ?_) k3 k5⟩
 intro p q hp hp2 hq hq2
 rw [hr.at_l hq hq2,hr.perm.out (.inl hp2),show m+(q-i)=m by omega]
 rcases g1 with g|g
 ·omega
 rcases Nat.lt_or_eq_of_le (show p<=i-1 by omega) with e|e
 ·exact hc.tr _ _ _ (h1 p (i-1) hp e (by omega)) g
 subst e;exact g
end
end Go.Vx
namespace Go.Vx
section
variable {α:Type} [Inhabited α] {f:α->Bool} {l:List α}
def Qcx (f:α->Bool) (l:List α):Nat:=(l.takeWhile f).length
def Qnv (f:α->Bool) (l:List α):Prop:=∀ i j,i<j->j<l.length->f (gd l j)=true->f (gd l i)=true
omit [Inhabited α] in
theorem Qgl:Qcx f l<=l.length:=by
 unfold Qcx
 induction l with
 | nil=>simp
 | cons a l ih=>rw [List.takeWhile_cons];split<;>simp<;>omega
theorem QkB {i:Nat} (h:i<Qcx f l):f (gd l i)=true:=by
 unfold Qcx at h
 induction l generalizing i with
 | nil=>simp at h
 | cons a l ih =>
  rw [List.takeWhile_cons] at h
  split at h
  ·rename_i ha
   cases i with
   | zero=>simpa [gd] using ha
   | succ i=>have:=ih (i:=i) (by simpa using h);simpa [gd] using this
  simp at h
theorem QjB (h:Qcx f l<l.length):f (gd l (Qcx f l))=false:=by
 unfold Qcx at h ⊢
 induction l with
 | nil=>simp at h
 | cons a l ih =>
  rw [List.takeWhile_cons] at h ⊢
  split at h
  ·rename_i ha
   rw [if_pos ha]
   have:=ih (by simpa using h)
   simpa [gd] using this
  rename_i ha
  rw [if_neg ha]
  simpa [gd] using ha
theorem QoQ (hm:Qnv f l) {h:Nat} (hh:h<l.length) (hf:f (gd l h)=true):h<Qcx f l:=by
 rcases Nat.lt_or_ge h (Qcx f l) with g|g
 ·exact g
 have h1:=QjB (f:=f) (l:=l) (by omega)
 rcases Nat.lt_or_eq_of_le g with e|e
 ·have:=hm _ _ e hh hf;rw [h1] at this;cases this
 rw [e] at h1;rw [h1] at hf;cases hf
theorem Qin {h:Nat} (hf:f (gd l h)=false):Qcx f l<=h:=by
 rcases Nat.lt_or_ge h (Qcx f l) with g|g
 ·rw [QkB g] at hf;cases hf
 exact g
end
section
variable {α:Type} [Inhabited α] {p:α->Bool} {l:List α}
theorem Qbf {k:Nat} (hk:k<l.length):l.take (k+1)=l.take k++[gd l k]:=by
 rw [List.take_add_one]
 simp [gd,hk]
def Qe7 (p:α->Bool) (l:List α):Int:=if l.any p then ((Qcx (fun x=>!p x) l:Nat):Int) else -1
theorem QjR {k:Nat} (hk:k<l.length) (hno:∀ j,j<k->p (gd l j)=false) (h:p (gd l k)=true):Qe7 p l=(k:Int):=by
 unfold Qe7
 have h1:l.any p=true:=List.any_eq_true.2 ⟨gd l k,Qbo hk,h⟩
 rw [if_pos h1]
 have h2:Qcx (fun x=>!p x) l<=k:=Qin (by rw [h];rfl)
 rcases Nat.lt_or_eq_of_le h2 with g|g
 ·have h3:=QjB (f:=fun x=>!p x) (l:=l) (by omega)
  rw [hno _ g] at h3;cases h3
 rw [g]
theorem Qoy (hno:∀ j,j<l.length->p (gd l j)=false):Qe7 p l = -1:=by
 unfold Qe7
 have h1:l.any p=false:=by
  rw [List.any_eq_false]
  intro x hx
  obtain ⟨i,hi,rfl⟩:=Qf8 hx
  rw [hno i hi];simp
 rw [h1];rfl
theorem Qlh:(Qe7 p l = -1/\l.filter (fun x=>!p x)=l)∨∃ k:Nat,Qe7 p l=(k:Int)/\k<l.length/\p (gd l k)=true/\(l.take k).filter (fun x=>!p x)=l.take k:=by
 unfold Qe7
 by_cases h:l.any p=true
 ·right
  obtain ⟨x,hx,hp⟩:=List.any_eq_true.1 h
  obtain ⟨i,hi,rfl⟩:=Qf8 hx
  have hle:Qcx (fun x=>!p x) l<=i:=Qin (by rw [hp];rfl)
  have hlt:Qcx (fun x=>!p x) l<l.length:=by omega
  have hat:=QjB hlt
  refine ⟨Qcx (fun x=>!p x) l,by rw [if_pos h],hlt,by simpa using hat,?_⟩
  rw [List.filter_eq_self]
  intro x hx
  obtain ⟨j,hj,rfl⟩:=Qf8 hx
  have hjl:j<Qcx (fun x=>!p x) l:=by rw [List.length_take] at hj;omega
  have:=QkB hjl
  have e:gd (l.take (Qcx (fun x=>!p x) l)) j=gd l j:=by simp [gd,hjl]
  rw [e];exact this
 left
 rw [Bool.not_eq_true] at h
 refine ⟨by rw [h];rfl,?_⟩
 rw [List.filter_eq_self]
 intro x hx
 rw [List.any_eq_false] at h
 simpa using h x hx
def Moved (p:α->Bool) (l m:List α) (i j:Nat):Prop:=m.length=l.length/\m.take i=(l.take j).filter (fun x=>!p x)/\∀ k,j<=k->gd m k=gd l k
theorem QgC {k:Nat} (hk:k<l.length) (hp:p (gd l k)=true) (h:(l.take k).filter (fun x=>!p x)=l.take k):Moved p l l k (k+1):=by
 refine ⟨rfl,?_,fun _ _=>rfl⟩
 rw [Qbf hk,List.filter_append,h]
 simp [hp]
theorem QhR {m:List α} {i j:Nat} (h:Moved p l m i j) (hj:j<l.length) (hp:p (gd m j)=true):Moved p l m i (j+1):=by
 rw [h.2.2 j (Nat.le_refl _)] at hp
 refine ⟨h.1,?_,fun k hk=>h.2.2 k (by omega)⟩
 rw [h.2.1,Qbf hj,List.filter_append]
 simp [hp]
theorem Qhr {m:List α} {i j:Nat} (h:Moved p l m i j) (hj:j<l.length) (hij:i<j) (hp:p (gd m j)=false):Moved p l (m.set i (gd m j)) (i+1) (j+1):=by
 have hp':=hp
 rw [h.2.2 j (Nat.le_refl _)] at hp'
 refine ⟨by rw [List.length_set,h.1],?_,fun k hk=>?_⟩
 ·rw [Qbf hj,List.filter_append,← h.2.1]
  have hil:i<(m.set i (gd m j)).length:=by rw [List.length_set,h.1];omega
  rw [Qbf hil]
  congr 1
  ·rw [List.take_set_of_le (Nat.le_refl _)]
  have:gd (m.set i (gd m j)) i=gd m j:=by
   have:i<m.length:=by rw [h.1];omega
   simp [gd,this]
  rw [this,h.2.2 j (Nat.le_refl _)]
  simp [hp']
 rw [← h.2.2 k (by omega)]
 simp [gd,show ¬i=k by omega]
theorem Qjq {m:List α} {i j:Nat} (h:Moved p l m i j) (hj:l.length<=j):m.take i=l.filter (fun x=>!p x):=by
 rw [h.2.1,List.take_of_length_le hj]
end
end Go.Vx
namespace Go.Vx
open Go.RowKit
section
variable {P:Program} {ty:TypeId} {e:Operand->Value} {w:World} {K:Value->World->Prop}
theorem QhD {t u:TypeId} {x y:Operand} {k ky:IntKind} {a:Nat} (hx:e x = .int k (a:Int)) (hy:e y = .int ky 1) (h:K (.int k ((a/2:Nat):Int)) w):opW P (.binOp .shr t x y u) ty e w K:=by
 refine Qxs hx hy (by decide) (by cases k<;>decide) ?_
 have:(a:Int)/2 ^ (1:Int).toNat=((a/2:Nat):Int):=by
  show (a:Int)/2 ^ 1=_
  omega
 rw [this];exact h
end
section
variable {α:Type} [Inhabited α] {cf:α->α->Int}
theorem QhB {l:List α} {i j:Nat} (hij:i<j) (hj:j<l.length):Qbj l (swL l i j) i (j+1):=by
 have h1:l=l.take i++gd l i :: ((l.drop (i+1)).take (j-i-1)++gd l j :: l.drop (j+1)):=by
  have e1:l.drop i=gd l i :: l.drop (i+1):=by rw [List.drop_eq_getElem_cons (by omega)];simp [gd,show i<l.length by omega]
  have e2:l.drop j=gd l j :: l.drop (j+1):=by rw [List.drop_eq_getElem_cons hj];simp [gd,hj]
  have e3:l.drop (i+1)=(l.drop (i+1)).take (j-i-1)++l.drop j:=by
   conv=>lhs;rw [← List.take_append_drop (j-i-1) (l.drop (i+1))]
   rw [List.drop_drop];congr 2;omega
  conv=>lhs;rw [← List.take_append_drop i l,e1,e3,e2]
 have hlen:(l.take i).length=i:=by rw [List.length_take];omega
 have hmid:((l.drop (i+1)).take (j-i-1)).length=j-i-1:=by rw [List.length_take,List.length_drop];omega
 have h2:swL l i j=l.take i++gd l j :: ((l.drop (i+1)).take (j-i-1)++gd l i :: l.drop (j+1)):=by
  have:=Qh0 (A:=l.take i) (M:=(l.drop (i+1)).take (j-i-1)) (B:=l.drop (j+1)) (x:=gd l i) (y:=gd l j) (i:=i) (j:=j) hlen.symm (by rw [hlen,hmid];omega)
  rw [← h1] at this
  exact this
 refine ⟨l.take i,gd l i :: ((l.drop (i+1)).take (j-i-1)++[gd l j]),gd l j :: ((l.drop (i+1)).take (j-i-1)++[gd l i]),l.drop (j+1),?_,?_,hlen,?_,?_⟩
 ·conv=>lhs;rw [h1]
  simp only [List.append_assoc,List.cons_append,List.nil_append]
 ·rw [h2];simp only [List.append_assoc,List.cons_append,List.nil_append]
 ·simp only [List.length_cons,QQ7,hmid,List.length_nil];omega
 have h3:(gd l j :: ((l.drop (i+1)).take (j-i-1)++[gd l i])).Perm (gd l j :: gd l i :: (l.drop (i+1)).take (j-i-1)):=List.Perm.cons _ List.perm_append_comm
 have h4:(gd l i :: ((l.drop (i+1)).take (j-i-1)++[gd l j])).Perm (gd l i :: gd l j :: (l.drop (i+1)).take (j-i-1)):=List.Perm.cons _ List.perm_append_comm
 exact h3.trans ((List.Perm.swap _ _ _).trans h4.symm)
theorem QqW {l:List α} {i:Nat}:swL l i i=l:=by
 unfold swL gd
 apply List.ext_getElem?
 intro k
 rw [List.getElem?_set,List.getElem?_set]
 by_cases h:i=k
 ·subst h
  by_cases hl:i<l.length
  ·simp [hl]
  simp [hl]
 simp [h]
theorem QsS {l:List α} {i j a b:Nat} (h1:a<=i) (h2:i<b) (h3:a<=j) (h4:j<b) (hb:b<=l.length):Qbj l (swL l i j) a b:=by
 rcases Nat.lt_trichotomy i j with h|h|h
 ·exact (QhB h (by omega)).wide h1 (by omega) hb
 ·subst h;rw [QqW];exact Qbj.refl l (by omega) hb
 rw [Qla];exact (QhB h (by omega)).wide h3 (by omega) hb
theorem QuO {l:List α} {i j k:Nat} (hi:i<l.length) (hj:j<l.length):gd (swL l i j) k=if k=j then gd l i else if k=i then gd l j else gd l k:=by
 unfold swL
 have h1:∀ (l:List α) (i k:Nat) (x:α),i<l.length->gd (l.set i x) k=if k=i then x else gd l k:=by
  intro l i k x hi
  unfold gd
  rw [List.getD_eq_getElem?_getD,List.getElem?_set]
  by_cases h:i=k
  ·subst h;simp [hi]
  rw [if_neg h,if_neg (fun e=>h e.symm),List.getD_eq_getElem?_getD]
 rw [h1 _ _ _ _ (by rw [List.length_set];exact hj),h1 _ _ _ _ hi]
def Quw (cf:α->α->Int) (m:List α) (a i j:Nat):Prop:=∀ p q,a<=p->p<q->q<=i->q≠j->¬cf (gd m q) (gd m p)<0
theorem QnA {m:List α} {a i:Nat} (h:Qbt cf m a i):Quw cf m a i i:=fun p q hp hpq hq hne=>h p q hp hpq (by omega)
theorem QpZ {m:List α} {a i j:Nat} (hc:CmpO cf) (h:Quw cf m a i j) (hj:a<j) (hji:j<=i) (hi:i<m.length) (ht:cf (gd m j) (gd m (j-1))<0):Quw cf (swL m j (j-1)) a i (j-1):=by
 intro p q hp hpq hq hne
 rw [QuO (by omega) (by omega),QuO (by omega) (by omega),if_neg hne]
 by_cases e1:q=j
 ·subst e1
  rw [if_pos rfl]
  by_cases e2:p=q-1
  ·subst e2;rw [if_pos rfl];exact hc.tot _ _ ht
  rw [if_neg e2,if_neg (by omega)];exact h p (q-1) hp (by omega) (by omega) (by omega)
 rw [if_neg e1]
 by_cases e2:p=j-1
 ·rw [if_pos e2];exact h j q (by omega) (by omega) hq (by omega)
 rw [if_neg e2]
 by_cases e3:p=j
 ·rw [if_pos e3];exact h (j-1) q (by omega) (by omega) hq e1
 rw [if_neg e3];exact h p q hp hpq hq e1
theorem QtU {m:List α} {a i j:Nat} (hc:CmpO cf) (h:Quw cf m a i j) (hja:a<=j) (hj:j=a∨¬cf (gd m j) (gd m (j-1))<0):Qbt cf m a (i+1):=by
 intro p q hp hpq hq
 by_cases e:q=j
 ·subst e
  rcases hj with hj|hj
  ·omega
  by_cases e2:p=q-1
  ·subst e2;exact hj
  exact hc.tr _ _ _ (h p (q-1) hp (by omega) (by omega) (by omega)) hj
 exact h p q hp hpq (by omega) e
end
end Go.Vx
namespace Go.Vx
section
variable {α:Type} [Inhabited α] {cf:α->α->Int}
def Blk (cf:α->α->Int) (m:List α) (s lim:Nat):Prop:=∀ t,Qbt cf m (t*s) (min (t*s+s) lim)
theorem QqQ {m:List α} {s:Nat}:Blk cf m s 0:=fun t=>Qbt.small (by omega)
theorem Qk2 {m m':List α} {s t0 e:Nat} (h:Blk cf m s (t0*s)) (hp:Qbj m m' (t0*s) e) (ho:Qbt cf m' (t0*s) e) (he:e<=t0*s+s):Blk cf m' s e:=by
 intro t
 rcases Nat.lt_trichotomy t t0 with g|g|g
 ·have h1:t*s+s<=t0*s:=by rw [← Nat.succ_mul];exact Nat.mul_le_mul_right _ g
  have h2:=h t
  have e1:min (t*s+s) (t0*s)=t*s+s:=by omega
  rw [e1] at h2
  exact (h2.out hp (.inl h1)).sub (Nat.le_refl _) (by omega)
 ·subst g;exact ho.sub (Nat.le_refl _) (by omega)
 have h1:t0*s+s<=t*s:=by rw [← Nat.succ_mul];exact Nat.mul_le_mul_right _ g
 exact Qbt.small (by omega)
def Mrg (cf:α->α->Int) (m:List α) (s t0 n:Nat):Prop:=(∀ t,t<t0->Qbt cf m (t*(2*s)) (min (t*(2*s)+2*s) n))/\∀ t,2*t0<=t->Qbt cf m (t*s) (min (t*s+s) n)
theorem Qmx {m:List α} {s n:Nat} (h:Blk cf m s n):Mrg cf m s 0 n:=⟨fun t ht=>by omega,fun t _=>h t⟩
theorem Qe0 (t0 s:Nat):(2*t0)*s=t0*(2*s):=by rw [Nat.mul_comm 2 t0,Nat.mul_assoc]
theorem Qhf {m:List α} {s t0 n:Nat} (h:Mrg cf m s t0 n):Qbt cf m (t0*(2*s)) (min (t0*(2*s)+s) n)/\Qbt cf m (t0*(2*s)+s) (min (t0*(2*s)+2*s) n):=by
 have h1:=h.2 (2*t0) (Nat.le_refl _)
 have h2:=h.2 (2*t0+1) (by omega)
 rw [Qe0] at h1
 rw [Nat.add_mul,Qe0,Nat.one_mul] at h2
 refine ⟨h1,?_⟩
 rw [show t0*(2*s)+2*s=t0*(2*s)+s+s by omega]
 exact h2
theorem Qk6 {m m':List α} {s t0 n e:Nat} (h:Mrg cf m s t0 n) (hp:Qbj m m' (t0*(2*s)) e) (ho:Qbt cf m' (t0*(2*s)) e) (he:e=min (t0*(2*s)+2*s) n):Mrg cf m' s (t0+1) n:=by
 refine ⟨fun t ht=>?_,fun t ht=>?_⟩
 ·rcases Nat.lt_or_eq_of_le (show t<=t0 by omega) with g|g
  ·have h1:t*(2*s)+2*s<=t0*(2*s):=by rw [← Nat.succ_mul];exact Nat.mul_le_mul_right _ g
   exact (h.1 t g).out hp (.inl (by omega))
  subst g;rw [← he];exact ho
 have h1:t0*(2*s)+2*s<=t*s:=by
  have:(2*(t0+1))*s<=t*s:=Nat.mul_le_mul_right _ ht
  rw [Qe0,Nat.add_mul,Nat.one_mul] at this;exact this
 exact (h.2 t (by omega)).out hp (.inr (by omega))
theorem QsE {m:List α} {s t0 n:Nat} (h:Mrg cf m s t0 n) (hn:n<=t0*(2*s)):Blk cf m (2*s) n:=by
 intro t
 rcases Nat.lt_or_ge t t0 with g|g
 ·exact h.1 t g
 have h1:t0*(2*s)<=t*(2*s):=Nat.mul_le_mul_right _ g
 exact Qbt.small (by omega)
theorem QpY {m:List α} {s t0 n:Nat} (h:Mrg cf m s t0 n) (hn:n<=t0*(2*s)+s):Blk cf m (2*s) n:=by
 intro t
 rcases Nat.lt_trichotomy t t0 with g|g|g
 ·exact h.1 t g
 ·subst g;exact (Qhf h).1.sub (Nat.le_refl _) (by omega)
 have h1:t0*(2*s)+2*s<=t*(2*s):=by rw [← Nat.succ_mul];exact Nat.mul_le_mul_right _ g
 exact Qbt.small (by omega)
theorem QsO {m:List α} {s n:Nat} (h:Blk cf m s n) (hs:n<=s):Qbt cf m 0 n:=by
 have:=h 0
 rw [Nat.zero_mul,Nat.zero_add] at this
 exact this.sub (Nat.le_refl _) (by omega)
theorem QtZ {m:List α} {n:Nat} (h:Qbt cf m 0 n) (hn:m.length<=n):Qmp cf m:=by
 refine List.pairwise_iff_getElem.2 fun i j hi hj hij=>?_
 have:=h i j (Nat.zero_le _) hij (by omega)
 simpa [gd,hi,hj] using this
omit [Inhabited α] in
theorem Qrb (key:α->Int):CmpO (fun x y=>QaR (key x) (key y)) where
 irr x:=by unfold QaR;simp
 tot x y h:=by
  unfold QaR at *
  split at h
  ·rename_i g;rw [if_neg (by omega),if_pos g];omega
  split at h<;>omega
 tr x y z h1 h2:=by
  unfold QaR at *
  split at h1<;>split at h2<;>(try omega)
end
end Go.Vx
namespace Go.Vx
section
variable {α:Type}
def QdN (l:List α) (i:Nat) (x:α):List α:=l.take i++[x]++l.drop i
theorem Qgu {l:List α} {i:Nat} {x:α} (hi:i<=l.length):(QdN l i x).length=l.length+1:=by
 unfold QdN;simp only [QQ7,List.length_take,List.length_drop,List.length_cons,List.length_nil];omega
theorem Qlf {l:List α} {i:Nat} {x:α} (hi:i=l.length):l++[x]=QdN l i x:=by
 subst hi;unfold QdN;rw [List.take_length,List.drop_length,List.append_nil]
theorem Qkq {l:List α} {x z:α} {i:Nat} (hi:i<=l.length) :
  (((l.take i++List.replicate (l.length+1-i) z).take i++[x]++(l.take i++List.replicate (l.length+1-i) z).drop (i+[x].length)).take (i+1)++l.drop i++((l.take i++List.replicate (l.length+1-i) z).take i++[x]++(l.take i++List.replicate (l.length+1-i) z).drop (i+[x].length)).drop (i+1+(l.drop i).length))=QdN l i x:=by
 have h1:(l.take i).length=i:=by rw [List.length_take];omega
 have e1:(l.take i++List.replicate (l.length+1-i) z).take i=l.take i:=List.take_left' h1
 rw [e1]
 have e2:(l.take i++[x]).length=i+1:=by rw [QQ7,h1];rfl
 have e3:(l.take i++[x]++(l.take i++List.replicate (l.length+1-i) z).drop (i+[x].length)).take (i+1)=l.take i++[x]:=List.take_left' e2
 have e4:(l.take i++[x]++(l.take i++List.replicate (l.length+1-i) z).drop (i+[x].length)).drop (i+1+(l.drop i).length)=[]:=by
  apply List.drop_eq_nil_of_le
  rw [QQ7,e2]
  simp only [QQ7,List.length_drop,List.length_replicate,h1,List.length_cons,List.length_nil]
  omega
 rw [e3,e4,List.append_nil]
 rfl
theorem Qlg {l:List α} {x:α} {i:Nat} (hi:i<l.length) :
  ((l.take (i+1)++l.drop i++l.drop (i+1+(l.drop i).length)).take i++[x]++(l.take (i+1)++l.drop i++l.drop (i+1+(l.drop i).length)).drop (i+[x].length))=QdN l i x:=by
 have h0:l.drop (i+1+(l.drop i).length)=[]:=List.drop_eq_nil_of_le (by rw [List.length_drop];omega)
 rw [h0,List.append_nil]
 have h1:(l.take (i+1)).length=i+1:=by rw [List.length_take];omega
 unfold QdN
 congr 1
 ·congr 1
  rw [List.take_append_of_le_length (by omega),List.take_take,Nat.min_eq_left (by omega)]
 rw [List.length_singleton,List.drop_left' h1]
end
end Go.Vx
namespace Go.Vx
section
variable {α:Type} [Inhabited α] {cf:α->α->Int}
def Qv5 (P:Program) (f g E k:Nat) (enc:α->List Value) (cf:α->α->Int) (d:Nat):Prop:=∀ (w:World) (S:Nat->Prop) (a:Option Addr) (N c:Nat) (l:List α) (lo mid hi:Nat),l.length=N->N<=2305843009213693951->hi-lo<=d->lo<mid->mid<hi->hi<=N->Qbt cf l lo mid->Qbt cf l mid hi ->
 (row (.slice a N c) (l.map enc) E k).holds w S->(∀ b,S b->b<w.heap.size)->Calls P f #[.slice a N c,.int .i64 (lo:Int),.int .i64 (mid:Int),.int .i64 (hi:Int),.func (.func g) #[] #[]] w fun e w'=>∃ x:List α,e = .returned (.tuple #[])/\Own w S w' [row (.slice a N c) (x.map enc) E k]/\(x.length=N/\Merged cf l x lo hi)
theorem Qvg {l:List α} {lo hi s s0 n e:Nat} (h:s=s0∨¬cf (gd l (n-1-(s-1))) (gd l (s-1))<0) (h0:s0=lo∨n=hi+s0) (hs:s0<=s) (he:e=n-s):s=lo∨e=hi∨¬cf (gd l e) (gd l (s-1))<0:=by
 by_cases hss:s=s0
 ·rcases h0 with h0|h0
  ·exact .inl (by omega)
  exact .inr (.inl (by omega))
 rcases h with h|h
 ·exact absurd h hss
 rw [show n-1-(s-1)=e by omega] at h;exact .inr (.inr h)
theorem Qwl {l:List α} {mid md s r0 n e:Nat} (h:s=r0∨cf (gd l (n-1-s)) (gd l s)<0) (h0:r0=mid∨r0=md) (hn:n=md+mid) (he:e=n-s) (hsm:s<=md):s=mid∨e=mid∨cf (gd l (e-1)) (gd l s)<0:=by
 rcases h with h|h
 ·rcases h0 with h0|h0
  ·exact .inl (by omega)
  exact .inr (.inl (by omega))
 rw [show n-1-s=e-1 by omega] at h;exact .inr (.inr h)
end
end Go.Vx
namespace Go.Proofs
open Go Go.Vx Go.RowKit
open Tryz
namespace Tt
theorem QbS:TA prog 102 2:=⟨sizeOf102,isAgg102⟩
theorem QaF:TA prog 106 7:=⟨sizeOf106,isAgg106⟩
theorem QfD:El prog 35 106 7 24:=⟨underlying35,_,_,type106,rfl,rfl,rfl,rfl,by decide⟩
theorem Qgx:El prog 36 102 2 8:=⟨underlying36,_,_,type102,rfl,rfl,rfl,rfl,by decide⟩
theorem Quu:En prog 126:=call126
theorem QrU:En prog 136:=call136
theorem Qlu:En prog 157:=call157
theorem Quy:En prog 170:=call170
theorem QnG:En prog 184:=call184
theorem QxO:En prog 88:=call88
theorem QdH:Ud prog 159 (.int .u64):=runUnderlying159
theorem QbK:Ud prog 35 (.slice 106):=runUnderlying35
theorem QeS:Ud prog 36 (.slice 102):=runUnderlying36
theorem QuI:prog.underlying 3=some (.int .i64):=underlying3
theorem Qdi:prog.underlying 35=some (.slice 106):=underlying35
theorem Qea:prog.underlying 36=some (.slice 102):=underlying36
theorem Qlm:Zv prog 102 (.agg (lsc (⟨0,0⟩:Lst)).toArray):=zeroValue102
theorem Qgb:Zv prog 106 (.agg (cec (⟨0,0,0,0,(⟨0,0⟩:Dot),0⟩:Cen)).toArray):=zeroValue106
end Tt
end Go.Proofs
namespace Go.Vx
theorem Qlq {x y:Int}:QaR x y<0↔x<y:=by unfold QaR;split<;>(try split)<;>omega
theorem QiK {x y:Int}:QaR x y=0↔x=y:=by unfold QaR;split<;>(try split)<;>omega
theorem Qfw {α:Type} {f:α->Bool} {x:α} {l:List α}:Qcx f (x :: l)=if f x=true then Qcx f l+1 else 0:=by
 unfold Qcx;rw [List.takeWhile_cons];split<;>simp
def QwJ (c:Int) (x:Lst):Bool:=decide (QaR x.cart c<0)
def QbR (ts:List Lst) (c:Int):Nat:=Qcx (QwJ c) ts
theorem Qd7 {c:Int} {x:Lst}:QwJ c x=true↔x.cart<c:=by unfold QwJ;rw [decide_eq_true_iff,Qlq]
theorem Qru {ts:List Lst} (h:QdQ ts) {i j:Nat} (hij:i<j) (hj:j<ts.length):(gd ts i).cart<(gd ts j).cart:=by
 have:=List.pairwise_iff_getElem.1 h i j (by omega) hj hij
 simpa [gd,hj,show i<ts.length by omega] using this
theorem Qom {ts:List Lst} (h:QdQ ts) (c:Int):Qnv (QwJ c) ts:=fun i j hij hj hf=>by
 rw [Qd7] at *
 have:=Qru h hij hj;omega
theorem QfS {x:Lst} {l:List Lst} {c:Int}:QaL (x :: l) c=if x.cart=c then some x.tick else QaL l c:=by
 unfold QaL;by_cases h:x.cart=c<;>simp [h]
theorem Qg3 {ts:List Lst} {c:Int} (h:∀ x∈ts,c<x.cart):QaL ts c=none:=by
 unfold QaL
 rw [Option.map_eq_none_iff,List.find?_eq_none]
 intro x hx
 have:=h x hx
 simp;omega
theorem Qkz {ts:List Lst} (h:QdQ ts) (c:Int):(QbR ts c<ts.length/\(gd ts (QbR ts c)).cart=c/\QaL ts c=some (gd ts (QbR ts c)).tick)∨((¬(QbR ts c<ts.length/\(gd ts (QbR ts c)).cart=c))/\QaL ts c=none):=by
 induction ts with
 | nil=>right;simp [QaL,QbR]
 | cons x l ih =>
  have hx:=List.pairwise_cons.1 h
  unfold QbR at *
  rw [Qfw,QfS]
  by_cases h1:x.cart<c
  ·rw [if_pos (Qd7.2 h1),if_neg (by omega)]
   rcases ih hx.2 with ⟨a,b,d⟩|⟨a,d⟩
   ·left;exact ⟨by simpa using a,by simpa [gd] using b,by simpa [gd] using d⟩
   right;refine ⟨fun ⟨p,q⟩=>a ⟨by simpa using p,by simpa [gd] using q⟩,d⟩
  rw [if_neg (fun h=>h1 (Qd7.1 h))]
  by_cases h2:x.cart=c
  ·left;rw [if_pos h2];exact ⟨by simp,by simpa [gd] using h2,by simp [gd]⟩
  right;rw [if_neg h2]
  refine ⟨fun ⟨_,q⟩=>h2 (by simpa [gd] using q),Qg3 fun y hy=>?_⟩
  have:=hx.1 y hy;omega
theorem Qmg {ts:List Lst} (h:QdQ ts) (c:Int):(decide (QbR ts c<ts.length)&&decide (QaR (gd ts (QbR ts c)).cart c=0))=(QaL ts c).isSome:=by
 rcases Qkz h c with ⟨a,b,d⟩|⟨a,d⟩
 ·rw [d,QQ3 a,QQ3 (QiK.2 b)];rfl
 rw [d]
 by_cases h1:QbR ts c<ts.length
 ·rw [QQ4 (p:=QaR _ _=0) (fun e=>a ⟨h1,QiK.1 e⟩),Bool.and_false];rfl
 rw [QQ4 h1];rfl
theorem Qiq {ts:List Lst} (h:QdQ ts) {c:Int} (hs:(QaL ts c).isSome=true):QbR ts c<ts.length/\(gd ts (QbR ts c)).cart=c/\QaL ts c=some (gd ts (QbR ts c)).tick:=by
 rcases Qkz h c with g|⟨_,d⟩
 ·exact g
 rw [d] at hs;cases hs
theorem Qsz (ts:List Lst) (c:Int):QbR ts c<=ts.length:=Qgl
theorem Qp5 {ts:List Lst} (h:QdQ ts) {c t:Int} (hs:(QaL ts c).isSome=false):QdP c t ts=QdN ts (QbR ts c) ⟨c,t⟩:=by
 induction ts with
 | nil=>rfl
 | cons x l ih =>
  have hx:=List.pairwise_cons.1 h
  rw [QfS] at hs
  unfold QdP QbR
  rw [Qfw]
  by_cases h2:x.cart=c
  ·rw [if_pos h2] at hs;cases hs
  rw [if_neg h2] at hs ⊢
  by_cases h1:x.cart<c
  ·rw [if_pos (Qd7.2 h1),if_neg (by omega),ih hx.2 hs];rfl
  rw [if_neg (fun h=>h1 (Qd7.1 h)),if_pos (by omega)];rfl
theorem QqT {ts:List Lst} (h:QdQ ts) {c t:Int} (hs:(QaL ts c).isSome=true):QdP c t ts=ts.set (QbR ts c) ⟨c,max (gd ts (QbR ts c)).tick t⟩:=by
 induction ts with
 | nil=>simp [QaL] at hs
 | cons x l ih =>
  have hx:=List.pairwise_cons.1 h
  rw [QfS] at hs
  unfold QdP QbR
  rw [Qfw]
  by_cases h2:x.cart=c
  ·rw [if_pos h2,if_neg (fun h=>by have:=Qd7.1 h;omega)];simp [gd]
  rw [if_neg h2] at hs ⊢
  by_cases h1:x.cart<c
  ·rw [if_pos (Qd7.2 h1),if_neg (by omega),ih hx.2 hs];simp [gd,QbR]
  rw [Qg3 (fun y hy=>by have:=hx.1 y hy;omega)] at hs;cases hs
def Qpe (ts:List Lst) (i:Nat):Bool:=decide (1073741824<(gd ts i).tick)||(decide (0<i)&&decide ((gd ts i).cart<=(gd ts (i-1)).cart))
def Qk1 (s:Sta) (i:Nat):Bool:=!Qlr s (gd s.ents i)||((s.ents.take i).any fun x=>decide (x.dot=(gd s.ents i).dot))||(decide (0<i)&&!Qco (gd s.ents (i-1)) (gd s.ents i))
def Qaw (s:Sta):Bool:=QaQ s.known 16&&((List.range s.ticks.length).all fun i=>!Qpe s.ticks i)&&(List.range s.ents.length).all fun i=>!Qk1 s i
theorem QrC {ts:List Lst} {k:Nat} (hk:k<=ts.length) (h:∀ i,i<k->Qpe ts i=false):QdQ (ts.take k):=by
 have key:∀ j,j<k->∀ i,i<j->(gd ts i).cart<(gd ts j).cart:=by
  intro j
  induction j with
  | zero=>intro _ i hi;omega
  | succ j ih =>
   intro hj i hi
   have h1:=h (j+1) hj
   unfold Qpe at h1
   simp only [Bool.or_eq_false_iff,Bool.and_eq_false_iff,decide_eq_false_iff_not,Nat.add_sub_cancel] at h1
   have h2:(gd ts j).cart<(gd ts (j+1)).cart:=by rcases h1.2 with g|g<;>omega
   rcases Nat.lt_or_eq_of_le (show i<=j by omega) with g|g
   ·have:=ih (by omega) i g;omega
   subst g;exact h2
 refine List.pairwise_iff_getElem.2 fun i j hi hj hij=>?_
 rw [List.length_take] at hi hj
 have:=key j (by omega) i hij
 rw [List.getElem_take,List.getElem_take]
 simpa [gd,show i<ts.length by omega,show j<ts.length by omega] using this
theorem Qto {l:List Cen} (h:∀ i,i<l.length->0<i->Qco (gd l (i-1)) (gd l i)=true):QiC l:=by
 have key:∀ j,j<l.length->∀ i,i<j->Qco (gd l i) (gd l j)=true:=by
  intro j
  induction j with
  | zero=>intro _ i hi;omega
  | succ j ih =>
   intro hj i hi
   have h1:=h (j+1) hj (by omega)
   rw [Nat.add_sub_cancel] at h1
   rcases Nat.lt_or_eq_of_le (show i<=j by omega) with g|g
   ·exact QcE (ih (by omega) i g) h1
   subst g;exact h1
 refine List.pairwise_iff_getElem.2 fun i j hi hj hij=>?_
 simpa [gd,hi,hj] using key j hj i hij
theorem Qqs {l:List Cen} (h:∀ i,i<l.length->((l.take i).any fun x=>decide (x.dot=(gd l i).dot))=false):(l.map (·.dot)).Nodup:=by
 refine List.pairwise_iff_getElem.2 fun i j hi hj hij=>?_
 rw [QQ6] at hi hj
 have h1:=h j hj
 rw [List.any_eq_false] at h1
 rw [List.getElem_map,List.getElem_map]
 intro e
 refine h1 (l[i]) ?_ ?_
 ·rw [List.mem_take_iff_getElem];exact ⟨i,by omega,rfl⟩
 rw [decide_eq_true_iff,e];simp [gd,hj]
theorem Qjy {s:Sta} (hk:QaQ s.known 16=true) (ht:∀ i,i<s.ticks.length->Qpe s.ticks i=false) (he:∀ i,i<s.ents.length->Qk1 s i=false):RightC s:=by
 have he':∀ i,i<s.ents.length->Qlr s (gd s.ents i)=true/\((s.ents.take i).any fun x=>decide (x.dot=(gd s.ents i).dot))=false/\(0<i->Qco (gd s.ents (i-1)) (gd s.ents i)=true):=fun i hi=>by
  have:=he i hi
  unfold Qk1 at this
  simp only [Bool.or_eq_false_iff,Bool.and_eq_false_iff,decide_eq_false_iff_not,Bool.not_eq_false'] at this
  refine ⟨this.1.1,this.1.2,fun h0=>?_⟩
  rcases this.2 with g|g
  ·exact absurd h0 g
  exact g
 refine ⟨hk,?_,?_,Qto fun i hi h0=>(he' i hi).2.2 h0,fun e hm=>?_,Qqs fun i hi=>(he' i hi).2.1⟩
 ·have:=QrC (Nat.le_refl _) ht
  rwa [List.take_length] at this
 ·intro x hx
  obtain ⟨i,hi,rfl⟩:=Qf8 hx
  have:=ht i hi
  unfold Qpe at this
  simp only [Bool.or_eq_false_iff,decide_eq_false_iff_not] at this
  omega
 obtain ⟨i,hi,rfl⟩:=Qf8 hm
 exact (he' i hi).1
theorem Qc2 {s:Sta}:Qaw s=true↔RightC s:=by
 constructor
 ·intro h
  unfold Qaw at h
  simp only [Bool.and_eq_true,List.all_eq_true,List.mem_range,Bool.not_eq_true'] at h
  exact Qjy h.1.1 h.1.2 h.2
 intro h
 unfold Qaw
 simp only [Bool.and_eq_true,List.all_eq_true,List.mem_range,Bool.not_eq_true']
 refine ⟨⟨h.known,fun i hi=>?_⟩,fun i hi=>?_⟩
 ·unfold Qpe
  have h1:=h.tick _ (Qbo hi)
  rw [QQ4 (by omega),Bool.false_or]
  by_cases h0:0<i
  ·have:=Qru h.rt (show i-1<i by omega) hi
   rw [QQ4 (p:=(gd s.ticks i).cart<=_) (by omega),Bool.and_false]
  rw [QQ4 h0];rfl
 unfold Qk1
 have h1:=h.ent _ (Qbo hi)
 rw [h1]
 have h2:((s.ents.take i).any fun x=>decide (x.dot=(gd s.ents i).dot))=false:=by
  rw [List.any_eq_false]
  intro x hx
  obtain ⟨j,hj,rfl⟩:=List.mem_take_iff_getElem.1 hx
  rw [decide_eq_true_iff]
  intro e
  have hnd:=List.pairwise_iff_getElem.1 h.nd j i (by rw [QQ6];omega) (by rw [QQ6];exact hi) (by omega)
  rw [List.getElem_map,List.getElem_map] at hnd
  apply hnd
  rw [e];simp [gd,hi]
 rw [h2]
 by_cases h0:0<i
 ·have:=List.pairwise_iff_getElem.1 h.re (i-1) i (by omega) hi (by omega)
  have h3:Qco (gd s.ents (i-1)) (gd s.ents i)=true:=by simpa [gd,hi,show i-1<s.ents.length by omega] using this
  rw [h3];simp
 rw [QQ4 h0];rfl
theorem Qlx {s:Sta} {i:Nat} (hi:i<s.ticks.length) (h:Qpe s.ticks i=true):Qaw s=false:=by
 rw [← Bool.not_eq_true]
 intro hr
 unfold Qaw at hr
 simp only [Bool.and_eq_true,List.all_eq_true,List.mem_range,Bool.not_eq_true'] at hr
 rw [hr.1.2 i hi] at h;cases h
theorem Qdp {s:Sta} {i:Nat} (hi:i<s.ents.length) (h:Qk1 s i=true):Qaw s=false:=by
 rw [← Bool.not_eq_true]
 intro hr
 unfold Qaw at hr
 simp only [Bool.and_eq_true,List.all_eq_true,List.mem_range,Bool.not_eq_true'] at hr
 rw [hr.2 i hi] at h;cases h
theorem Qml {s:Sta} (h:QaQ s.known 16=false):Qaw s=false:=by unfold Qaw;rw [h];rfl
def Qjc (l:List Cen):List (Dot × Unit):=l.foldl (fun m e=>mput e.dot () m) []
theorem QhP (l:List Cen) (e:Cen):Qjc (l++[e])=mput e.dot () (Qjc l):=by unfold Qjc;rw [List.foldl_append];rfl
theorem QiR (l:List Cen) (d:Dot):(mget d (Qjc l)).isSome=l.any fun x=>decide (x.dot=d):=by
 refine Qbe (motive:=fun l=>(mget d (Qjc l)).isSome=l.any fun x=>decide (x.dot=d)) rfl (fun l e ih=>?_) l
 rw [QhP,Qdn,List.any_append,← ih]
 by_cases h:e.dot=d
 ·subst h;simp
 rw [if_neg (fun e2=>h e2.symm)];simp [h]
theorem QlT {l:List Cen} {k:Nat} (hk:k<l.length):Qjc (l.take (k+1))=mput (gd l k).dot () (Qjc (l.take k)):=by rw [Qbf hk,QhP]
end Go.Vx
namespace Go.Vx
def QdV (s:Sta):Prop:=QbH s.known/\(∀ e∈s.ents,Qj2 e)/\∀ x∈s.ticks,QiT x
theorem QkL (a b:Cen):decide (0<=Qb1 a b) = !Qco a b:=by
 by_cases h:Qco a b=true
 ·rw [h,QQ4]
  ·rfl
  have:=(Qd3 a b).2 h;omega
 rw [Bool.not_eq_true] at h
 rw [h,QQ3]
 ·rfl
 rcases Int.lt_or_le (Qb1 a b) 0 with g|g
 ·rw [(Qd3 a b).1 g] at h;cases h
 exact g
end Go.Vx
namespace Go.Vx
open Go.RowKit
theorem QgY {k:Nat}:∀ (m:List (List Value)) (_:∀ l∈m,l.length=k) (j off:Nat) (vs a:List Value),m[j]?=some a->off+vs.length<=k->(m.set j (spl a off vs)).flatten=spl m.flatten (j*k+off) vs
 | [],_,j,_,_,_,h,_=>by simp at h
 | b :: m,hm,0,off,vs,a,h,ho=>by
  simp at h;subst h
  have hb:=hm b (by simp)
  rw [List.set_cons_zero,List.flatten_cons,List.flatten_cons,QcW _ _ _ (by omega),QcW _ _ _ (by rw [QQ7];omega)]
  rw [Nat.zero_mul,Nat.zero_add,List.take_append_of_le_length (by omega),List.drop_append_of_le_length (by omega)]
  simp only [List.append_assoc]
 | b :: m,hm,j+1,off,vs,a,h,ho=>by
  simp only [List.getElem?_cons_succ] at h
  have hb:=hm b (by simp)
  have hm':∀ l∈m,l.length=k:=fun l hl=>hm l (by simp [hl])
  have ih:=QgY m hm' j off vs a h ho
  have hj:=QaZ h
  have hfl:=Qcg m hm'
  have hb2:(j+1)*k<=m.length*k:=Nat.mul_le_mul_right _ hj
  rw [Nat.add_mul,Nat.one_mul] at hb2
  rw [List.set_cons_succ,List.flatten_cons,List.flatten_cons,ih,QcW _ _ _ (by omega),QcW _ _ _ (by rw [QQ7];rw [Nat.add_mul];omega)]
  have e1:(j+1)*k+off=b.length+(j*k+off):=by rw [Nat.add_mul,hb];omega
  rw [e1,List.take_length_add_append,show b.length+(j*k+off)+vs.length=b.length+(j*k+off+vs.length) by omega,List.drop_length_add_append]
  simp only [List.append_assoc]
section
variable {P:Program} {ty:TypeId} {e:Operand->Value} {w:World} {K:Value->World->Prop} {w0:World} {M:Nat->Prop} {L:List Res}
theorem QvR {α:Type} [Inhabited α] {t E k n c:Nat} {enc:α->List Value} {x y:Operand} {v:Value} {l:List α} {z:α} {V:Value} {vs:List Value} (i off:Nat) (ht:Sz P t c) (hs:Own w0 M w L) (j:Nat) (hk:L[j]?=some (row v (l.map enc) E k)) (hx:e x = .pointer (some ⟨bkS v,n,none⟩)) (hn:n=ofS v+i*k+off) (hi:i<l.length) (hy:e y=V)
  (hV:V.cells=vs.toArray) (hvc:vs.length=c) (hz:enc z=spl (enc (gd l i)) off vs) (hoff:off+vs.length<=k) (h1:∀ u∈enc z,u.oneCell'=true) (hv1:∀ u∈vs,u.oneCell'=true) (h:∀ w',Own w0 M w' (L.set j (row v ((l.set i z).map enc) E k))->K undef w'):opW P (.store t x y) ty e w K:=by
 obtain ⟨S,⟨⟨hl1,ho1⟩,hown,hSg⟩,hlt,_⟩:=hs.get j hk
 rcases hown.2 with ⟨hv,hn0⟩|⟨g,cap,cur,hv,h0g,hg,hnc,hcm,hcs,htake⟩
 ·have h0:l.length=0:=by simpa using hn0
  omega
 have hlen:(l.map enc).length=l.length:=by simp
 subst hv
 have hn':n=i*k+off:=by rw [hn];simp [ofS]
 subst hn'
 have hx':e x = .pointer (some ⟨g,i*k+off,none⟩):=hx
 have hik:i*k+k<=l.length*k:=by
  have:=Nat.mul_le_mul_right k (show i+1<=l.length from hi)
  rw [Nat.add_mul] at this;omega
 have hcap:l.length*k<=cur.size:=by rw [hcs];exact Nat.mul_le_mul_right _ (by rw [← hlen];exact hnc)
 have hrun:=QcB (P:=P) ht g (i*k+off) E V vs cur.toList hV hvc (w:=w) (by simpa using hg) (by have:cur.toList.length=cur.size:=QQ9;omega) hv1
 refine QeF (w':=w.setRow g (spl cur.toList (i*k+off) vs).toArray) ?_ (h _ ?_)
 ·simp only [execOp,hx',hy,Instr.storeAt,Instr.sureAddr,Sem.run_bind,Sem.run_pure,Result.andThen_ok,hrun]
 refine hs.change j (b:=g) hk (by simp) rfl rfl rfl (fun c hc=>setRow_other w g c _ hc) ?_
 rintro S' ⟨_,hown',hSg'⟩
 have e1:(l.set i z).map enc=(l.map enc).set i (spl (enc (gd l i)) off vs):=by rw [List.map_set,hz]
 have hgi:(l.map enc)[i]?=some (enc (gd l i)):=by simp [gd,hi]
 have hzl:(enc z).length=k:=by
  have hgl:=hl1 _ (List.mem_of_getElem? hgi)
  rw [hz,QcW _ _ _ (by omega)]
  simp only [QQ7,List.length_take,List.length_drop];omega
 have hk1:∀ m∈(l.map enc).set i (spl (enc (gd l i)) off vs),m.length=k:=by
  intro m hm
  rcases List.mem_or_eq_of_mem_set hm with h|h
  ·exact hl1 m h
  subst h;rw [← hz];exact hzl
 have hsl:∀ cs:List Value,i*k+k<=cs.length->(spl cs (i*k+off) vs).length=cs.length:=fun cs hc=>by
  rw [QcW _ _ _ (by omega)]
  simp only [QQ7,List.length_take,List.length_drop];omega
 refine ⟨hSg' g rfl,?_⟩
 rw [e1]
 refine ⟨⟨hk1,?_⟩,⟨?_,.inr ⟨g,cap,_,by rw [List.length_set],h0g,setRow_heap w g cur _ E _ hg,by rw [List.length_set];exact hnc,hcm,?_,?_⟩⟩,fun g' hg'=>by cases hg';exact hSg' g rfl⟩
 ·intro m hm u hu
  rcases List.mem_or_eq_of_mem_set hm with h|h
  ·exact ho1 m h u hu
  subst h;rw [← hz] at hu;exact h1 u hu
 ·rw [QgY _ hl1 i off vs _ hgi hoff,List.length_set,hsl _ (by rw [hown.1,hlen];exact hik)];exact hown.1
 ·rw [List.size_toArray,hsl _ (by have:cur.toList.length=cur.size:=QQ9;omega)];simpa using hcs
 rw [QgY _ hl1 i off vs _ hgi hoff,← htake,List.length_set]
 show (spl cur.toList (i*k+off) vs).take _=_
 rw [Qiz]
theorem Own.lendB (hs:Own w0 M w L) (i j:Nat) (hij:i≠j) {R:Res} (hi:L[i]?=some R) {b T:Nat} {cs:List Value} (hj:L[j]?=some (blk b cs T)) :
  ∃ S,R.holds w S/\(∀ b,S b->b<w.heap.size)/\¬S b/\∀ w' R' L',Own w S w' (R' :: L')->Own w0 M w' (L.set i R'++L'):=by
 obtain ⟨S,h1,h2,_,h4,h5⟩:=hs.lend3 i hi
 obtain ⟨Sj,hj1,hj2⟩:=h4 j (fun e=>hij e.symm) _ hj
 exact ⟨S,h1,h2,fun hb=>hj2 _ hb hj1.1,h5⟩
theorem Qtn {α:Type} {f:FuncId} {xs:List Operand} {vs:List Value} {ats:Array TypeId} {V:α->Value} {R:Res} {R':α->Res} {Lo:α->List Res} {F:α->World->Prop} {b T:Nat} {cs:List Value} (hf:En P f) (hef:e (.func f) = .func (.func f) #[] #[]) (hv:xs.map e=vs)
  (hs:Own w0 M w L) (i j:Nat) (hij:i≠j) (hi:L[i]?=some R) (hj:L[j]?=some (blk b cs T))
  (hc:∀ S,R.holds w S->(∀ b,S b->b<w.heap.size)->¬S b->QbW w b cs->Calls P f vs.toArray w fun r w'=>∃ x,r = .returned (V x)/\Own w S w' (R' x :: Lo x)/\F x w') (h:∀ x w',Own w0 M w' (L.set i (R' x)++Lo x)->F x w'->K (V x) w') :
  opW P (.call { callee:=.value (.func f),args:=xs.toArray,argTypes:=ats }) ty e w K:=by
 obtain ⟨S,hR,hlt,hn,hback⟩:=hs.lendB i j hij hi hj
 exact Qe6 hf hef (by rw [List.map_toArray,hv]) ((hc S hR hlt hn (hs.cellsf j hj)).mono fun r w' ⟨x,hr,ho,hF⟩=>⟨V x,hr,h x w' (hback w' _ _ ho) hF⟩)
end
def Qfv (e:Cen) (x:Cen):Bool:=decide (Qb1 x e<0)
theorem Qir {e x:Cen}:Qfv e x=true↔Qco x e=true:=by unfold Qfv;rw [decide_eq_true_iff,Qd3]
theorem QsN {l:List Cen} (h:QiC l) {i j:Nat} (hij:i<j) (hj:j<l.length):Qco (gd l i) (gd l j)=true:=by
 have:=List.pairwise_iff_getElem.1 h i j (by omega) hj hij
 simpa [gd,hj,show i<l.length by omega] using this
theorem QmA {l:List Cen} (h:QiC l) (e:Cen):Qnv (Qfv e) l:=fun i j hij hj hf=>by
 rw [Qir] at *
 exact QcE (QsN h hij hj) hf
theorem Qk9 {e:Cen}:∀ {l:List Cen},e.dot ∉ l.map (·.dot)->Qlv e l=QdN l (Qcx (Qfv e) l) e
 | [],_=>rfl
 | x :: l,hn=>by
  rw [List.map_cons,List.mem_cons] at hn
  unfold Qlv
  rw [Qfw]
  rcases Qe3 (a:=e) (b:=x) (fun h=>hn (.inl h)) with h|h
  ·have h2:¬Qco x e=true:=fun g=>by have:=QcE h g;rw [Qb5] at this;cases this
   rw [if_pos h,if_neg (fun g=>h2 (Qir.1 g))];rfl
  have h2:¬Qco e x=true:=fun g=>by have:=QcE h g;rw [Qb5] at this;cases this
  rw [if_neg h2,if_pos (Qir.2 h),Qk9 (fun hm=>hn (.inr hm))];rfl
def Qc8 (s:Sta) (o:Opn):Int:=if Qaw s=true then QbM s.known o else 2
def Qa1 (s:Sta) (o:Opn):Sta:=if Qc8 s o=0 then Qeh s o else szero
theorem Qne (o:Opn):((decide (o.kind=1)||decide (o.kind=2))||decide (o.kind=4))=QaX o:=rfl
theorem QhO {known:Vec} {o:Opn} (ho:QbL o) (h:QbM known o=0):DotP o.dot/\QbD known o.dot=false:=⟨Qjk ho (QeN h).1,(QeN h).2.1⟩
theorem QnQ {s:Sta} {o:Opn} (hr:RightC s) (h:QbD s.known o.dot=false):o.dot ∉ s.ents.map (·.dot):=fun hm=>by
 obtain ⟨e,he,hd⟩:=List.mem_map.1 hm
 have:=hr.ent e he
 unfold Qlr at this
 simp only [Bool.and_eq_true] at this
 rw [hd] at this
 rw [this.1.1.2] at h;cases h
end Go.Vx
namespace Go.Vx
theorem Own.two {w0 w:World} {M:Nat->Prop} {L:List Res} (h:Own w0 M w L) (i j:Nat) (hij:i≠j) {R Q:Res} (hi:L[i]?=some R) (hj:L[j]?=some Q):Own w0 M w [R,Q]:=by
 obtain ⟨a,b,c,d,e,S,f,g,i',j'⟩:=h
 refine ⟨a,b,c,d,e,fun k b=>(k=0/\S i b)∨(k=1/\S j b),fun k T hk=>?_,?_,?_,?_⟩
 ·match k with
  | 0 =>
   simp at hk;subst hk
   have e1:(fun b=>((0:Nat)=0/\S i b)∨((0:Nat)=1/\S j b))=S i:=by funext b;simp
   show R.holds w (fun b=>((0:Nat)=0/\S i b)∨((0:Nat)=1/\S j b))
   rw [e1];exact f i R hi
  | 1 =>
   simp at hk;subst hk
   have e1:(fun b=>((1:Nat)=0/\S i b)∨((1:Nat)=1/\S j b))=S j:=by funext b;simp
   show Q.holds w (fun b=>((1:Nat)=0/\S i b)∨((1:Nat)=1/\S j b))
   rw [e1];exact f j Q hj
  | k+2=>simp at hk
 ·rintro k b (⟨_,h⟩|⟨_,h⟩)
  ·exact g i b h
  exact g j b h
 ·rintro k k' b (⟨h1,h2⟩|⟨h1,h2⟩) (⟨h3,h4⟩|⟨h3,h4⟩)
  ·omega
  ·exact absurd (i' i j b h2 h4) hij
  ·exact absurd (i' i j b h4 h2) hij
  omega
 rintro k b (⟨_,h⟩|⟨_,h⟩) hb
 ·exact j' i b h hb
 exact j' j b h hb
end Go.Vx
namespace Go.Vx
theorem Qmt {l:List Cen} {p:Cen->Bool} {d:Dot} (h:d∈(l.filter p).map (·.dot)):d∈l.map (·.dot):=by
 obtain ⟨e,he,hd⟩:=List.mem_map.1 h
 exact List.mem_map.2 ⟨e,(List.mem_filter.1 he).1,hd⟩
end Go.Vx
namespace Go.Proofs
open Go Go.Vx Go.RowKit
open Tryz
namespace Tt
theorem Qkm:T1 prog 104:=⟨sizeOf104,isAgg104⟩
theorem QgK:T1 prog 35:=⟨sizeOf35,isAgg35⟩
theorem Qf5:T1 prog 36:=⟨sizeOf36,isAgg36⟩
theorem Qrq:TA prog 169 0:=⟨sizeOf169,isAgg169⟩
theorem Qb4:TA prog 38 18:=⟨sizeOf38,isAgg38⟩
theorem Quc (a b:Dot):EqF prog 2 96 (.agg (dc a).toArray) (.agg (dc b).toArray) (decide (a=b)):=by
 rw [← QtH]
 exact Qf4 underlying96 stoodInHeld96 (.cons (by decide) (Qbp ⟨sizeOf5,isAgg5⟩ rfl) (Qbp ⟨sizeOf5,isAgg5⟩ rfl) (Qd4 runUnderlying5) (.cons (by decide) (Qbp ⟨sizeOf22,isAgg22⟩ rfl) (Qbp ⟨sizeOf22,isAgg22⟩ rfl) (Qd4 runUnderlying22) .nil))
theorem QrL:Bt prog 102 [(0,1),(1,1)] (lsc (⟨0,0⟩:Lst)):=Qcr type102 rfl rfl underlying102 (by kernel_rfl)
theorem QrK:Bt prog 106 [(0,1),(1,1),(2,1),(3,1),(4,2),(6,1)] (cec (⟨0,0,0,0,(⟨0,0⟩:Dot),0⟩:Cen)):=Qcr type106 rfl rfl underlying106 (by kernel_rfl)
theorem QrI:Bt prog 169 [] ([]):=Qcr type169 rfl rfl underlying169 (by kernel_rfl)
theorem QnW:Bt prog 38 [(0,16),(16,1),(17,1)] ((vc vzero)++[(.slice none 0 0:Value),(.slice none 0 0:Value) ]):=Qcr type38 rfl rfl underlying38 (by kernel_rfl)
theorem QtQ:Bt prog 98 [(0,2),(2,1),(3,1),(4,1),(5,1),(6,1),(7,16)] (oc (⟨(⟨0,0⟩:Dot),0,0,0,0,0,vzero⟩:Opn)):=Qcr type98 rfl rfl underlying98 (by kernel_rfl)
theorem QwC:En prog 115:=call115
theorem QvJ:En prog 116:=call116
theorem Qvz:En prog 117:=call117
theorem QuM:En prog 118:=call118
theorem Quf:En prog 119:=call119
theorem Qr1:En prog 120:=call120
theorem Qvn:En prog 121:=call121
theorem QvC:En prog 122:=call122
theorem QwB:En prog 123:=call123
theorem QvH:En prog 124:=call124
theorem Qwb:En prog 125:=call125
theorem Qux:En prog 153:=call153
theorem Qur:En prog 156:=call156
theorem QvU:En prog 39:=call39
theorem Qww:En prog 42:=call42
theorem QsG:En prog 46:=call46
theorem Qqo:En prog 73:=call73
theorem Qtb:En prog 74:=call74
theorem Qqr:En prog 77:=call77
theorem QeP:FA prog 102 0 0:=fun b o w=>by simp [Instr.fieldAt,Instr.sureAddr,fieldPlace,Qbk]
theorem QeO:FA prog 102 1 1:=fun b o w=>by simp [Instr.fieldAt,Instr.sureAddr,fieldPlace,Qbk]
theorem QdE:FA prog 106 0 0:=fun b o w=>by simp [Instr.fieldAt,Instr.sureAddr,fieldPlace,Qbk]
theorem QdJ:FA prog 106 1 1:=fun b o w=>by simp [Instr.fieldAt,Instr.sureAddr,fieldPlace,Qbk]
theorem QeC:FA prog 106 2 2:=fun b o w=>by simp [Instr.fieldAt,Instr.sureAddr,fieldPlace,Qbk]
theorem QeR:FA prog 106 3 3:=fun b o w=>by simp [Instr.fieldAt,Instr.sureAddr,fieldPlace,Qbk]
theorem QbX:FA prog 106 4 4:=fun b o w=>by simp [Instr.fieldAt,Instr.sureAddr,fieldPlace,Qbk]
theorem Qgo:FA prog 106 5 6:=fun b o w=>by simp [Instr.fieldAt,Instr.sureAddr,fieldPlace,Qbk]
theorem Qeo:FA prog 38 0 0:=fun b o w=>by simp [Instr.fieldAt,Instr.sureAddr,fieldPlace,Qbk]
theorem Qdx:FA prog 38 1 16:=fun b o w=>by simp [Instr.fieldAt,Instr.sureAddr,fieldPlace,Qbk]
theorem Qc0:FA prog 38 2 17:=fun b o w=>by simp [Instr.fieldAt,Instr.sureAddr,fieldPlace,Qbk]
theorem Qqf:KeyOk prog 96 dv:=Qnh underlying96 (by decide) (by decide) rfl rfl ⟨sizeOf5,isAgg5⟩ ⟨sizeOf22,isAgg22⟩ runUnderlying5 runUnderlying22 Quc
theorem QkR:Ud prog 168 (.map 96 169):=runUnderlying168
theorem Qky:Zv prog 169 (.agg #[]):=zeroValue169
theorem Qgg:Zv prog 38 (.agg ((vc vzero)++[(.slice none 0 0:Value),(.slice none 0 0:Value) ]).toArray):=zeroValue38
theorem QhZ:Zv prog 98 (.agg (oc (⟨(⟨0,0⟩:Dot),0,0,0,0,0,vzero⟩:Opn)).toArray):=zeroValue98
end Tt
end Go.Proofs
