/- A part of a proof: what functions of the program compute, and plain facts on that. -/
import Derived.Test.YtbjbjboehjdcaaaGreatCutsFoldP2
import Derived.KernelRfl
import Derived.Test.YtbjbjboehjdcaaaGreatProg
import Derived.Shelf.SlSortCmp.Xorshift
import Derived.Laws.Bits64b
import Derived.Sort.LotD5
import Derived.Laws.BytesArg
import Derived.Sort.EncStr
import Derived.MapKept
set_option linter.unusedVariables false
set_option linter.unusedSimpArgs false
set_option maxHeartbeats 4000000
set_option maxRecDepth 100000
namespace Go.Vx
def cv (e:Cen):Value:=.agg (cec e).toArray
def cz:Cen:=⟨0,0,0,0,⟨0,0⟩,0⟩
def QwX (b:Sta) (x:Cen):Bool:=b.ents.any fun y=>decide (y.dot=x.dot)&&!decide (y=x)
def QgD (a b:Sta):Int:=if (Qaw a&&Qaw b)=false then 2 else if a.ents.any (QwX b)=true then 5 else 0
def QhK (a b:Sta):Sta:=if QgD a b=0 then Quh a b else szero
def Qlk (l m:List Cen):Prop:=m.Perm l/\m.Pairwise fun x y=>¬Qb1 y x<0
theorem Qsk {m:List Cen} (hn:(m.map (·.dot)).Nodup) (h:m.Pairwise fun x y=>¬Qb1 y x<0):QiC m:=by
 refine List.pairwise_iff_getElem.2 fun i j hi hj hij=>?_
 have h1:=List.pairwise_iff_getElem.1 h i j hi hj hij
 have h2:=List.pairwise_iff_getElem.1 hn i j (by simpa using hi) (by simpa using hj) hij
 rw [List.getElem_map,List.getElem_map] at h2
 rcases Qe3 h2 with g|g
 ·exact g
 ·exact absurd ((Qd3 _ _).2 g) h1
theorem QtL {l m:List Cen} (hn:(l.map (·.dot)).Nodup) (h:Qlk l m):m=QdD l:=by
 have hp:=Qfd l hn
 have hm:(m.map (·.dot)).Nodup:=(h.1.map _).nodup_iff.2 hn
 exact Qo3 (Qsk hm h.2) hp.1 fun x=>by rw [hp.2,h.1.mem_iff]
theorem Qic {c t:Int}:∀ l:List Lst,(QdP c t l).length<=l.length+1
 | []=>by simp [QdP]
 | x :: l=>by
  unfold QdP
  split
  ·simp
  ·split
   ·simp
   ·have:=Qic (c:=c) (t:=t) l;simp;omega
def QuF (a b:Cen):Int:=orI [QaR a.count b.count,QaR a.dot.rep b.dot.rep,QaR a.dot.seq b.dot.seq]
theorem Qug (a b:Cen):decide (0<QuF a b)=Qex b a:=by
 rw [Bool.eq_iff_iff,decide_eq_true_iff,Qdt]
 unfold QuF orI QaR
 rcases Int.lt_trichotomy a.count b.count with h|h|h
 ·simp [h];omega
 ·rw [if_neg (by omega),if_neg (by omega)]
  rcases Int.lt_trichotomy a.dot.rep b.dot.rep with h2|h2|h2
  ·simp [h,h2];omega
  ·rw [if_neg (by omega),if_neg (by omega)]
   rcases Int.lt_trichotomy a.dot.seq b.dot.seq with h3|h3|h3
   ·simp [h,h2,h3];omega
   ·rw [if_neg (by omega),if_neg (by omega)]
    simp;omega
   ·rw [if_neg (by omega),if_pos h3]
    simp;omega
  ·rw [if_neg (by omega),if_pos h2]
   simp;omega
 ·rw [if_neg (by omega),if_pos h]
  simp;omega
def Qe9 (a e:Cen):Cen:=if e.kind=1 then a else if Qex a e=true then e else a
theorem Qnc (l:List Cen) (h:∀ e∈l,1<=e.count):l.foldl Qe9 cz=(QdW (l.filter fun e=>!decide (e.kind=1))).getD cz:=by
 revert h
 refine Qbe (motive:=fun l=>(∀ e∈l,1<=e.count)->l.foldl Qe9 cz=(QdW (l.filter fun e=>!decide (e.kind=1))).getD cz) (fun _=>rfl) (fun l e ih h=>?_) l
 have ih:=ih fun x hx=>h x (by simp [hx])
 have he:=h e (by simp)
 rw [List.foldl_append,List.filter_append]
 show Qe9 (l.foldl Qe9 cz) e=_
 unfold Qe9
 by_cases hk:e.kind=1
 ·rw [if_pos hk]
  have:([e].filter fun e=>!decide (e.kind=1))=[]:=by simp [hk]
  rw [this,List.append_nil];exact ih
 ·rw [if_neg hk]
  have:([e].filter fun e=>!decide (e.kind=1))=[e]:=by simp [hk]
  rw [this,QdS]
  rw [show l.foldl (fun a e=>if e.kind=1 then a else if Qex a e=true then e else a) cz=l.foldl Qe9 cz from rfl,ih]
  cases QdW (l.filter fun e=>!decide (e.kind=1)) with
  | none =>
   have:Qex cz e=true:=by rw [Qdt];left;show 0<e.count;omega
   simp [this]
  | some y =>
   simp only [Option.getD_some]
   split<;>rfl
theorem Qem (l:List Cen) (e:Cen):Qfy (l++[e])=if e.kind=1 then (Qfy l+e.qty)%4294967296 else Qfy l:=by unfold Qfy;rw [List.foldl_append];rfl
theorem QsP (l:List Cen) (h:∀ e∈l,0<=e.qty):0<=Qfy l/\Qfy l<4294967296:=by
 revert h
 refine Qbe (motive:=fun l=>(∀ e∈l,0<=e.qty)->0<=Qfy l/\Qfy l<4294967296) (fun _=>⟨Int.le_refl _,by decide⟩) (fun l e ih h=>?_) l
 have ih:=ih fun x hx=>h x (by simp [hx])
 rw [Qem]
 split<;>omega
theorem Qpj {l:List Cen} (h:∀ e∈l,1<=e.count):(Qfy l+(l.foldl Qe9 cz).qty)%4294967296=Qeg l:=by
 unfold Qeg
 rw [Qnc l h]
 cases QdW (l.filter fun e=>!decide (e.kind=1))<;>rfl
theorem Qqt (l:List Cen):l.foldl Qe9 cz=cz∨l.foldl Qe9 cz∈l:=by
 refine Qbe (motive:=fun l=>l.foldl Qe9 cz=cz∨l.foldl Qe9 cz∈l) (.inl rfl) (fun l e ih=>?_) l
 rw [List.foldl_append]
 show Qe9 (l.foldl Qe9 cz) e=cz∨Qe9 (l.foldl Qe9 cz) e∈l++[e]
 unfold Qe9
 have key:l.foldl Qe9 cz=cz∨l.foldl Qe9 cz∈l++[e]:=by rcases ih with h|h;exact .inl h;exact .inr (by simp [h])
 split
 ·exact key
 ·split
  ·exact .inr (by simp)
  ·exact key
def QjD (s:Sta) (c:Int):List Cen:=s.ents.filter fun e=>decide (e.cart=c)&&!decide (e.kind=4)
def QiV (s:Sta) (c n:Int):Line:=⟨n,Qeg (Qeb s c n)⟩
def Grps (Q R:List Cen) (I:List Int):Prop:=∃ D,Q=D++R/\(∀ x∈D,∀ y∈R,x.item<y.item)/\I.Pairwise (· < ·)/\∀ i,i∈I↔∃ x∈D,x.item=i
theorem Ql4 (Q:List Cen):Grps Q Q []:=⟨[],by simp,by simp,List.Pairwise.nil,by simp⟩
theorem Qo0 {Q R:List Cen} {I:List Int} {n:Nat} (h:Grps Q R I) (hs:Qmp (fun x y=>QaR x.item y.item) Q) (hn1:1<=n) (hn:n<=R.length) (heq:∀ j,j<n->(gd R j).item=(gd R 0).item) (hne:n=R.length∨(gd R n).item≠(gd R 0).item) :
  Grps Q (R.drop n) (I++[(gd R 0).item])/\∀ x,x∈R.take n↔x∈Q/\x.item=(gd R 0).item:=by
 obtain ⟨D,hQ,hlt,hI,hm⟩:=h
 subst hQ
 have hR:Qmp (fun x y=>QaR x.item y.item) R:=(QnP hs).2.1
 have hle:∀ i j,i<=j->j<R.length->(gd R i).item<=(gd R j).item:=fun i j hij hj=>by
  rcases Nat.lt_or_eq_of_le hij with g|g
  ·have:=Qvp hR g hj
   rw [Qlq] at this;omega
  ·subst g;exact Int.le_refl _
 have htk:∀ x∈R.take n,x.item=(gd R 0).item:=fun x hx=>by
  obtain ⟨j,hj,rfl⟩:=List.mem_take_iff_getElem.1 hx
  have:=heq j (by omega)
  simpa [gd,show j<R.length by omega] using this
 have hdr:∀ x∈R.drop n,(gd R 0).item<x.item:=fun x hx=>by
  obtain ⟨j,hj,rfl⟩:=Qf8 hx
  rw [List.length_drop] at hj
  have e:gd (R.drop n) j=gd R (n+j):=by simp [gd,List.getElem?_drop]
  rw [e]
  rcases hne with g|g
  ·omega
  ·have h1:=hle 0 n (Nat.zero_le _) (by omega)
   have h2:=hle n (n+j) (by omega) (by omega)
   omega
 have h0:gd R 0∈R:=Qbo (by omega)
 refine ⟨⟨D++R.take n,by rw [List.append_assoc,List.take_append_drop],?_,?_,?_⟩,?_⟩
 ·intro x hx y hy
  rcases List.mem_append.1 hx with g|g
  ·exact hlt x g y (List.mem_of_mem_drop hy)
  ·rw [htk x g];exact hdr y hy
 ·rw [List.pairwise_append]
  refine ⟨hI,List.pairwise_singleton _ _,fun i hi j hj=>?_⟩
  rw [List.mem_singleton.1 hj]
  obtain ⟨x,hx,rfl⟩:=(hm i).1 hi
  exact hlt x hx _ h0
 ·intro i
  rw [List.mem_append,hm,List.mem_singleton]
  constructor
  ·rintro (⟨x,hx,e⟩|e)
   ·exact ⟨x,by simp [hx],e⟩
   ·exact ⟨gd R 0,List.mem_append.2 (.inr (List.mem_take_iff_getElem.2 ⟨0,by omega,by simp [gd,show 0<R.length by omega]⟩)),e.symm⟩
  ·rintro ⟨x,hx,e⟩
   rcases List.mem_append.1 hx with g|g
   ·exact .inl ⟨x,g,e⟩
   ·exact .inr (by rw [← e];exact htk x g)
 ·intro x
  constructor
  ·intro hx;exact ⟨List.mem_append.2 (.inr (List.mem_of_mem_take hx)),htk x hx⟩
  ·rintro ⟨hx,e⟩
   rcases List.mem_append.1 hx with g|g
   ·have:=hlt x g _ h0;omega
   ·rw [← List.take_append_drop n R] at g
    rcases List.mem_append.1 g with g|g
    ·exact g
    ·have:=hdr x g;omega
theorem Qfs {l m:List Int} (hl:l.Pairwise (· < ·)) (hm:m.Pairwise (· < ·)) (h:∀ x,x∈l↔x∈m):l=m:=by
 have hp:l.Perm m:=(List.perm_ext_iff_of_nodup (hl.imp fun h=>by omega) (hm.imp fun h=>by omega)).2 h
 exact hp.eq_of_pairwise (le:=fun a b=>a<=b) (fun a b _ _ h1 h2=>Int.le_antisymm h1 h2) (hl.imp fun h=>Int.le_of_lt h) (hm.imp fun h=>Int.le_of_lt h)
theorem Qq2 {s:Sta} {c:Int} {Q:List Cen} {I:List Int} (hp:Q.Perm (QjD s c)) (h:Grps Q [] I):I.map (QiV s c)=(QgM s c).lines:=by
 obtain ⟨D,hQ,_,hI,hm⟩:=h
 rw [List.append_nil] at hQ
 subst hQ
 have ho:=QdO (QdI s c)
 have:I=Qen (QdI s c):=Qfs hI ho.1 fun i=>by
  rw [hm,ho.2]
  unfold QdI
  rw [List.mem_map]
  constructor
  ·rintro ⟨x,hx,e⟩;exact ⟨x,hp.mem_iff.1 hx,e⟩
  ·rintro ⟨x,hx,e⟩;exact ⟨x,hp.mem_iff.2 hx,e⟩
 rw [this];rfl
theorem Qrp {s:Sta} {c:Int} {Q G:List Cen} {n:Int} (hr:RightC s) (hp:Q.Perm (QjD s c)) (hG:G.Sublist Q) (hm:∀ x,x∈G↔x∈Q/\x.item=n):Qeg G=Qeg (Qeb s c n):=by
 have hQ:(Q.map (·.dot)).Nodup:=(hp.map _).nodup_iff.2 (hr.nd.sublist (List.filter_sublist.map _))
 refine Qit (hQ.sublist (hG.map _)) (hr.nd.sublist (List.filter_sublist.map _)) fun x=>?_
 rw [hm,hp.mem_iff]
 unfold QjD Qeb
 rw [List.mem_filter,List.mem_filter]
 simp only [Bool.and_eq_true,decide_eq_true_eq]
 constructor
 ·rintro ⟨⟨a,b,c⟩,d⟩;exact ⟨a,b,d,c⟩
 ·rintro ⟨a,b,d,c⟩;exact ⟨⟨a,b,c⟩,d⟩
end Go.Vx
namespace Go.Vx
theorem QpF {l:List Cen} {k:Nat} {s:Int} (h:s=Qfy (l.take k)) (hk:k<l.length) (hy:(gd l k).kind=1):(s+(gd l k).qty)%4294967296=Qfy (l.take (k+1)):=by rw [Qbf hk,Qem,if_pos hy,h]
theorem QnR {l:List Cen} {k:Nat} {s:Int} (h:s=Qfy (l.take k)) (hk:k<l.length) (hn:¬(gd l k).kind=1):s=Qfy (l.take (k+1)):=by rw [Qbf hk,Qem,if_neg hn,h]
theorem QgE {l:List Cen} {k:Nat} {t:Cen} (h:t=(l.take k).foldl Qe9 cz) (hk:k<l.length):Qe9 t (gd l k)=(l.take (k+1)).foldl Qe9 cz:=by rw [Qbf hk,List.foldl_append,← h];rfl
theorem QnN {t e:Cen} (h:e.kind=1):Qe9 t e=t:=by unfold Qe9;rw [if_pos h]
theorem Qph {t e:Cen} (h:¬e.kind=1) (g:Qex t e=true):Qe9 t e=e:=by unfold Qe9;rw [if_neg h,if_pos g]
theorem Qst {t e:Cen} (h:¬e.kind=1) (g:Qex t e=false):Qe9 t e=t:=by unfold Qe9;rw [if_neg h,if_neg (by rw [g];decide)]
theorem Qqg {l:List Cen} (h:∀ e∈l,Qj2 e):0<=(l.foldl Qe9 cz).qty/\(l.foldl Qe9 cz).qty<65536:=by
 rcases Qqt l with g|g
 ·rw [g];exact ⟨Int.le_refl _,by decide⟩
 ·exact (h _ g).2.2.1
theorem Qey {α:Type} [Inhabited α] {l:List α} {p:α->Bool} {k:Nat} {b:Bool} (h:b=(l.take k).any p) (hk:k<l.length):(b||p (gd l k))=(l.take (k+1)).any p:=by
 rw [Qbf hk,List.any_append,← h];simp
theorem Qts {s:Sta} {c:Int} {Q R:List Cen} {I:List Int} {n:Nat} (hr:RightC s) (hp:Q.Perm (QjD s c)) (h:Grps Q R I) (hs:Qmp (fun x y=>QaR x.item y.item) Q) (hn1:1<=n) (hn:n<=R.length) (heq:∀ j,j<n->(gd R j).item=(gd R 0).item) (hne:n=R.length∨(gd R n).item≠(gd R 0).item) :
  Grps Q (R.drop n) (I++[(gd R 0).item])/\QiV s c (gd R 0).item=⟨(gd R 0).item,Qeg (R.take n)⟩:=by
 obtain ⟨h1,h2⟩:=Qo0 h hs hn1 hn heq hne
 obtain ⟨D,hQ,_⟩:=h
 refine ⟨h1,?_⟩
 unfold QiV
 rw [Qrp hr hp (by rw [hQ];exact (List.take_sublist _ _).trans (List.sublist_append_right _ _)) h2]
theorem Qrg {Q R:List Cen} {I:List Int} (h:Grps Q R I):∀ x∈R,x∈Q:=by
 obtain ⟨D,hQ,_⟩:=h
 intro x hx;rw [hQ];exact List.mem_append_right _ hx
theorem Qnt {s:Sta} {c i:Int} {I:List Int} {o:List Line} {x:Line} (h:o=I.map (QiV s c)) (hx:QiV s c i=x):o++[x]=(I++[i]).map (QiV s c):=by rw [List.map_append,← h,List.map_singleton,hx]
theorem QsT {s:Sta} {c tk:Int} {ob:Bool} {o:List Line} {Q R:List Cen} {I:List Int} (hrt:Qaw s=true) (htk:tk=(QaL s.ticks c).getD 0) (hob:ob=s.ents.any fun e=>decide (e.cart=c)&&decide (e.kind=4)) (hp:Q.Perm (QjD s c)) (h:Grps Q R I) (hR:R.length=0) (ho:o=I.map (QiV s c)):QaM s c (Qaw s)=⟨c,o,ob,tk⟩:=by
 have:R=[]:=List.length_eq_zero_iff.1 hR
 subst this
 unfold QaM
 rw [if_pos hrt,ho,Qq2 hp h,hob,htk];rfl
theorem Qtm {ts:List Lst} {c:Int} (h:(QaL ts c).isSome=false):(0:Int)=(QaL ts c).getD 0:=by
 cases hq:QaL ts c with
 | none=>rfl
 | some v=>rw [hq] at h;cases h
theorem Qqj {s:Sta} {c:Int} {x:Cen} (hr:RightC s) (h:x∈QjD s c):x∈s.ents/\1<=x.count:=by
 have h1:=(List.mem_filter.1 h).1
 have h2:=hr.ent x h1
 unfold Qlr at h2
 simp only [Bool.and_eq_true,decide_eq_true_eq] at h2
 exact ⟨h1,h2.1.2⟩
def QaD (s:Sta):List Int:=if Qaw s=true then s.ticks.map (·.cart) else []
end Go.Vx
namespace Go.Proofs
open Go Go.Vx Go.RowKit
open Tryz
namespace Tt
theorem QlF:T1 prog 4:=⟨sizeOf4,isAgg4⟩
theorem Qfl:T1 prog 47:=⟨sizeOf47,isAgg47⟩
theorem Qcw:TA prog 127 2:=⟨sizeOf127,isAgg127⟩
theorem Qdc:TA prog 49 4:=⟨sizeOf49,isAgg49⟩
theorem QnF:Bt prog 127 [(0,1),(1,1)] (lc (⟨0,0⟩:Line)):=Qcr type127 rfl rfl underlying127 (by kernel_rfl)
theorem Qpp:Bt prog 49 [(0,1),(1,1),(2,1),(3,1)] ([.int .u16 0,.slice none 0 0,.bool false,.int .u32 0]):=Qcr type49 rfl rfl underlying49 (by kernel_rfl)
theorem QlL:El prog 47 127 2 8:=⟨underlying47,_,_,type127,rfl,rfl,rfl,rfl,by decide⟩
theorem Qno:El prog 69 32 1 2:=⟨underlying69,_,_,type32,rfl,rfl,rfl,rfl,by decide⟩
theorem Qu2:En prog 128:=call128
theorem Qw3:En prog 75:=call75
theorem Qxk:En prog 76:=call76
theorem Qxw:En prog 78:=call78
theorem QcR:FA prog 49 1 1:=fun b o w=>by simp [Instr.fieldAt,Instr.sureAddr,fieldPlace,Qbk]
theorem Qdv:FA prog 49 2 2:=fun b o w=>by simp [Instr.fieldAt,Instr.sureAddr,fieldPlace,Qbk]
theorem Qeu:FA prog 49 3 3:=fun b o w=>by simp [Instr.fieldAt,Instr.sureAddr,fieldPlace,Qbk]
theorem QiB:Ud prog 32 (.int .u16):=runUnderlying32
theorem QvL:Zv prog 127 (.agg (lc (⟨0,0⟩:Line)).toArray):=zeroValue127
theorem Qhe:Zv prog 49 (.agg #[.int .u16 0,.slice none 0 0,.bool false,.int .u32 0]):=zeroValue49
end Tt
end Go.Proofs
namespace Go.Vx
theorem Own.sel {w0 w:World} {M:Nat->Prop} {L:List Res} (h:Own w0 M w L) (is:List Nat) {L':List Res} (hn:is.Nodup) (he:(is.map fun i=>L[i]?)=L'.map some):Own w0 M w L':=by
 obtain ⟨a,b,c,d,e,S,f,g,i,j⟩:=h
 have key:∀ {k:Nat} {R:Res},L'[k]?=some R->∃ n,is[k]?=some n/\L[n]?=some R:=fun {k R} hk=>by
  have h1:(is.map fun i=>L[i]?)[k]?=(L'.map some)[k]?:=by rw [he]
  rw [List.getElem?_map,List.getElem?_map,hk] at h1
  cases hi:is[k]? with
  | none=>rw [hi] at h1;cases h1
  | some n=>rw [hi] at h1;exact ⟨n,rfl,by simpa using h1⟩
 refine ⟨a,b,c,d,e,fun k b=>∃ n,is[k]?=some n/\S n b,fun k R hk=>?_,?_,?_,?_⟩
 ·obtain ⟨n,h1,h2⟩:=key hk
  have e1:(fun b=>∃ m,is[k]?=some m/\S m b)=S n:=by
   funext b;apply propext
   constructor
   ·rintro ⟨m,h3,h4⟩;rw [h1] at h3;cases h3;exact h4
   exact fun h=>⟨n,h1,h⟩
  show R.holds w (fun b=>∃ m,is[k]?=some m/\S m b)
  rw [e1];exact f n R h2
 ·rintro k b ⟨n,_,h⟩;exact g n b h
 ·rintro k k' b ⟨n,h1,h2⟩ ⟨m,h3,h4⟩
  have hnm:=i n m b h2 h4
  subst hnm
  have hk:k<is.length:=by rcases Nat.lt_or_ge k is.length with q|q;exact q;rw [List.getElem?_eq_none q] at h1;cases h1
  have hk':k'<is.length:=by rcases Nat.lt_or_ge k' is.length with q|q;exact q;rw [List.getElem?_eq_none q] at h3;cases h3
  rw [List.getElem?_eq_getElem hk] at h1
  rw [List.getElem?_eq_getElem hk'] at h3
  exact (List.getElem_inj hn).1 ((Option.some.inj h1).trans (Option.some.inj h3).symm)
 rintro k b ⟨n,_,h⟩ hb;exact j n b h hb
section
variable {α:Type} [Inhabited α] {l m:List α}
theorem QpN {k:Nat} (h:∀ j:Nat,j<k->gd l j=gd m j) (hk:gd l k=gd m k):∀ j:Nat,j<k+1->gd l j=gd m j:=by
 intro j hj
 by_cases e:j=k
 ·subst e;exact hk
 exact h j (by omega)
theorem QmR (hn:l.length=m.length) (h:∀ j:Nat,j<l.length->gd l j=gd m j):l=m:=by
 apply List.ext_getElem hn
 intro j h1 h2
 have:=h j h1
 simpa [gd,h1,h2] using this
end
theorem Seq.take {l:List Opn} (h:Seq l):∀ k,Seq (l.take k):=by
 induction h with
 | nil=>intro k;rw [List.take_nil];exact .nil
 | @snoc l o h1 h2 h3 h4 h5 h6 ih =>
  intro k
  rcases Nat.lt_or_ge l.length k with q|q
  ·rw [List.take_of_length_le (by rw [QQ7,List.length_singleton];omega)];exact .snoc h1 h2 h3 h4 h5 h6
  rw [List.take_append_of_le_length q];exact ih k
theorem Qh7 {e:Cen}:∀ {l:List Cen},(Qlv e l).length=l.length+1
 | []=>rfl
 | x :: l=>by
  unfold Qlv;split
  ·rfl
  rw [List.length_cons,Qh7];rfl
theorem QlC (s:Sta) (o:Opn):(Qeh s o).ents.length<=s.ents.length+1/\(Qeh s o).ticks.length<=s.ticks.length+1:=by
 have h1:=List.length_filter_le (fun e=>!Qay o (QaG e)) s.ents
 refine ⟨?_,Qic s.ticks⟩
 unfold Qeh
 dsimp only
 split
 ·rw [Qh7];omega
 omega
theorem QkZ (l:List Opn):(Qdf l).ents.length<=l.length/\(Qdf l).ticks.length<=l.length:=by
 refine Qbe (motive:=fun l=>(Qdf l).ents.length<=l.length/\(Qdf l).ticks.length<=l.length) ⟨Nat.le_refl _,Nat.le_refl _⟩ (fun l o ih=>?_) l
 rw [QdU,QQ7,List.length_singleton]
 have:=QlC (Qdf l) o
 omega
theorem Qj1 {c t:Int} (h:QiT ⟨c,t⟩):∀ {l:List Lst},(∀ x∈l,QiT x)->∀ x∈QdP c t l,QiT x
 | [],_,x,hx=>by simp [QdP] at hx;subst hx;exact h
 | y :: l,hl,x,hx=>by
  have hy:=hl y (by simp)
  have hl':∀ x∈l,QiT x:=fun z hz=>hl z (by simp [hz])
  unfold QdP at hx
  split at hx
  ·rcases List.mem_cons.1 hx with g|g
   ·subst g
    obtain ⟨h1,h2,h3⟩:=h
    obtain ⟨k1,k2,k3⟩:=hy
    dsimp only at h1 h2 h3
    exact ⟨h1,by show 0<=max y.tick t;omega,by show max y.tick t<_;omega⟩
   exact hl' x g
  split at hx
  ·rcases List.mem_cons.1 hx with g|g
   ·subst g;exact h
   exact hl x g
  rcases List.mem_cons.1 hx with g|g
  ·subst g;exact hy
  exact Qj1 h hl' x g
theorem QnM {o:Opn} (h:QbL o):Qj2 (Qdh o):=by
 obtain ⟨h1,h2,h3,h4,h5,h6,h7⟩:=h
 have:=Qj8 h7
 exact ⟨h3,h4,h5,h2,h1,by show 0<=Qba o;unfold Qba;omega,by show Qba o<_;unfold Qba;omega⟩
theorem QoF {s:Sta} {o:Opn} (hs:QdV s) (ho:QbL o):QdV (Qeh s o):=by
 obtain ⟨h1,h2,h3⟩:=hs
 refine ⟨?_,?_,?_⟩
 ·exact Qgz h1 _ ho.1.2.1 ho.1.2.2
 ·intro e he
  unfold Qeh at he
  dsimp only at he
  split at he
  ·rcases QfL.1 he with g|g
   ·subst g;exact QnM ho
   exact h2 e (List.mem_filter.1 g).1
  exact h2 e (List.mem_filter.1 he).1
 intro x hx
 exact Qj1 ⟨ho.2.2.1,ho.2.2.2.2.2.1⟩ h3 x hx
theorem Qh5:QdV szero:=⟨Qch,(fun _ h=>by cases h),(fun _ h=>by cases h)⟩
theorem Seq.ok {l:List Opn} (h:Seq l):QdV (Qdf l):=by
 induction h with
 | nil=>exact Qh5
 | snoc h1 h2 h3 h4 h5 h6 ih=>rw [QdU];exact QoF ih h2
def Qke (l:List Opn) (i j:Nat):Bool:=QbD (gd l i).ctx (gd l j).dot&&!vle (gd l j).ctx (gd l i).ctx
def QbY (l:List Opn):Bool:=decide (l.length<=40)&&Qbs l&&((List.range l.length).all fun k=>decide (QbM (Qbw (l.take k)) (gd l k)=0))&&(List.range l.length).all fun i=>(List.range l.length).all fun j=>!Qke l i j
theorem QqY {l:List Opn} (h:40<l.length):QbY l=false:=by unfold QbY;rw [QQ4 (p:=l.length<=40) (by omega)];rfl
theorem QjY {l:List Opn} (h:Qbs l=false):QbY l=false:=by unfold QbY;rw [h];simp
theorem QlV {l:List Opn} {k:Nat} (hk:k<l.length) (h:¬QbM (Qbw (l.take k)) (gd l k)=0):QbY l=false:=by
 rw [Bool.eq_false_iff]
 intro g
 unfold QbY at g
 simp only [Bool.and_eq_true,List.all_eq_true,List.mem_range,decide_eq_true_eq] at g
 exact h (g.1.2 k hk)
theorem QnI {l:List Opn} {i j:Nat} (hi:i<l.length) (hj:j<l.length) (h:Qke l i j=true):QbY l=false:=by
 rw [Bool.eq_false_iff]
 intro g
 unfold QbY at g
 simp only [Bool.and_eq_true,List.all_eq_true,List.mem_range,decide_eq_true_eq,Bool.not_eq_true'] at g
 rw [g.2 i hi j hj] at h;cases h
theorem Qq8 {l:List Opn} (h1:l.length<=40) (h2:Qbs l=true) (h3:∀ k,k<l.length->QbM (Qbw (l.take k)) (gd l k)=0) (h4:∀ i,i<l.length->∀ j,j<l.length->Qke l i j=false):QbY l=true:=by
 unfold QbY
 simp only [Bool.and_eq_true,List.all_eq_true,List.mem_range,decide_eq_true_eq,Bool.not_eq_true']
 exact ⟨⟨⟨h1,h2⟩,h3⟩,h4⟩
theorem Qqd {l:List Opn} (hl:∀ o∈l,QbL o) (h:QbY l=true):l.length<=40/\Qbs l=true/\Seq l:=by
 unfold QbY at h
 simp only [Bool.and_eq_true,List.all_eq_true,List.mem_range,decide_eq_true_eq] at h
 exact ⟨h.1.1.1,h.1.1.2,QvK hl h.1.2⟩
theorem Qmd {l:List Opn} {k:Nat} {v:Vec} (h:v=Qbw (l.take k)) (hk:k<l.length):vset v (gd l k).dot.rep.toNat (gd l k).dot.seq=Qbw (l.take (k+1)):=by rw [Qbf hk,Qdw,h]
end Go.Vx
namespace Go.Proofs
open Go Go.Vx Go.RowKit
open Tryz
namespace Tt
theorem Qu7 (a b:Line):EqF prog 2 127 (.agg (lc a).toArray) (.agg (lc b).toArray) (decide (a=b)):=by
 rw [← Qpm]
 exact Qf4 (D:=1) underlying127 stoodInHeld127 (.cons (by decide) (Qbp ⟨sizeOf32,isAgg32⟩ rfl) (Qbp ⟨sizeOf32,isAgg32⟩ rfl) ((Qd4 runUnderlying32).up (by decide)) (.cons (by decide) (Qbp ⟨sizeOf22,isAgg22⟩ rfl) (Qbp ⟨sizeOf22,isAgg22⟩ rfl) ((Qd4 runUnderlying22).up (by decide)) .nil))
theorem Qkd:El prog 29 98 23 84:=⟨underlying29,_,_,type98,rfl,rfl,rfl,rfl,by decide⟩
theorem Qub:En prog 111:=call111
theorem QuS:En prog 113:=call113
theorem QuL:En prog 114:=call114
theorem QuH:En prog 70:=call70
theorem Qig:FA prog 49 0 0:=fun b o w=>by simp [Instr.fieldAt,Instr.sureAddr,fieldPlace,Qbk]
theorem QbG:Ud prog 29 (.slice 98):=runUnderlying29
theorem Qds:Ud prog 47 (.slice 127):=runUnderlying47
theorem QaP:Ud prog 69 (.slice 32):=runUnderlying69
theorem Qvy:prog.underlying 29=some (.slice 98):=underlying29
theorem QuE:prog.underlying 4=some (.bool):=underlying4
end Tt
end Go.Proofs
namespace Go.Vx
def QrZ:Opn:=⟨⟨0,1⟩,1,3,4,2,5,vzero⟩
def Qpu:Sta:=⟨vset vzero 0 1,[⟨3,4,2,1,⟨0,1⟩,1⟩],[⟨3,5⟩]⟩
theorem Qtu:QbL QrZ:=by
 refine ⟨⟨⟨by decide,by decide⟩,by decide,by decide⟩,⟨by decide,by decide⟩,⟨by decide,by decide⟩,⟨by decide,by decide⟩,⟨by decide,by decide⟩,⟨by decide,by decide⟩,Qch⟩
theorem QxU:QaM Qpu 3 (Qaw Qpu)=⟨3,[(⟨4,2⟩:Line)],false,5⟩:=by
 have h1:Qaw Qpu=true:=by decide +kernel
 rw [h1]
 show QgM Qpu 3=_
 unfold QgM
 have h2:Qen (QdI Qpu 3)=[4]:=by
  have h:=QdO (QdI Qpu 3)
  refine Qfs h.1 (List.pairwise_singleton _ _) fun x=>?_
  rw [h.2];rfl
 rw [h2];rfl
end Go.Vx
namespace Go.Proofs
open Go Go.Vx Go.RowKit
open Tryz
namespace Tt
theorem Qqb:En prog 33:=call33
end Tt
end Go.Proofs
namespace Go.Vx
open Go.RowKit Go.ChangeShapes Go.WideShapes Go.ChangeAt
theorem Qw0 {P:Program} {t td tv:TypeId} {f0 f1 f2 f3 f4 f5 f6:Field} (ht:P.underlying t=some (.struct #[f0,f1,f2,f3,f4,f5,f6]))
  (hoff:[f0.offset,f1.offset,f2.offset,f3.offset,f4.offset,f5.offset,f6.offset]=[0,2,3,4,5,6,7])
  (hty:[f0.type,f6.type]=[td,tv])
  (hD:QfF P td dc QcS) (hV:QfF P tv vc QbH)
  (u1:P.underlying f1.type=some (.int .u8)) (u2:P.underlying f2.type=some (.int .u16)) (u3:P.underlying f3.type=some (.int .u16)) (u4:P.underlying f4.type=some (.int .u16)) (u5:P.underlying f5.type=some (.int .u32))
  (hc:[P.cellsOf f0.type,P.cellsOf f1.type,P.cellsOf f2.type,P.cellsOf f3.type,P.cellsOf f4.type,P.cellsOf f5.type,P.cellsOf f6.type]=[2,1,1,1,1,1,16]) (hct:P.cellsOf t=23):QfF P t oc QbL:=by
 intro H enc w base spare held fuel cs x h
 obtain ⟨xs,m,_,_,hl,hxl,hx⟩:=DataW.trod_struct ht h
 rw [hct] at hl
 have g0:=hx 0 f0 rfl
 have g1:=hx 1 f1 rfl
 have g2:=hx 2 f2 rfl
 have g3:=hx 3 f3 rfl
 have g4:=hx 4 f4 rfl
 have g5:=hx 5 f5 rfl
 have g6:=hx 6 f6 rfl
 have hx2:xs.length=7:=by simpa using hxl
 simp only [List.cons.injEq,and_true] at hoff hty hc
 obtain ⟨o0,o1,o2,o3,o4,o5,o6⟩:=hoff
 obtain ⟨c0,c1,c2,c3,c4,c5,c6⟩:=hc
 obtain ⟨t0,t6⟩:=hty
 rw [List.getElem?_eq_getElem (by omega)] at g0 g1 g2 g3 g4 g5 g6
 rw [o0,c0,t0] at g0
 rw [o1,c1] at g1
 rw [o2,c2] at g2
 rw [o3,c3] at g3
 rw [o4,c4] at g4
 rw [o5,c5] at g5
 rw [o6,c6,t6] at g6
 obtain ⟨d,hd,e0⟩:=hD _ _ _ _ _ _ _ _ _ g0
 obtain ⟨k,hk,e1⟩:=QiE u1 _ _ _ _ _ _ _ _ _ g1
 obtain ⟨c,hc',e2⟩:=QiE u2 _ _ _ _ _ _ _ _ _ g2
 obtain ⟨i,hi,e3⟩:=QiE u3 _ _ _ _ _ _ _ _ _ g3
 obtain ⟨q,hq,e4⟩:=QiE u4 _ _ _ _ _ _ _ _ _ g4
 obtain ⟨tk,htk,e5⟩:=QiE u5 _ _ _ _ _ _ _ _ _ g5
 obtain ⟨v,hv,e6⟩:=hV _ _ _ _ _ _ _ _ _ g6
 refine ⟨⟨d,k,c,i,q,tk,v⟩,⟨hd,QrS hk,QjJ hc',QjJ hi,QjJ hq,QjP htk,hv⟩,?_⟩
 match cs,hl with
 | x0 :: x1 :: x2 :: x3 :: x4 :: x5 :: x6 :: R,hR =>
  have e6':R=vc v:=by
   simp only [List.drop_succ_cons,List.drop_zero] at e6
   rw [List.take_of_length_le (by simp at hR;omega)] at e6;exact e6
  simp [ic,dc] at e0 e1 e2 e3 e4 e5
  rw [e0.1,e0.2,e1,e2,e3,e4,e5,e6']
  rfl
end Go.Vx
namespace Go.Vx
structure AnyP (s0 s1 s2 ab bc abc:Sta) (n:Nat):Prop where
 i01:QgD s0 s1=0
 r01:QhK s0 s1=ab
 i10:QgD s1 s0=0
 r10:QhK s1 s0=ab
 iab:QgD ab s2=0
 rab:QhK ab s2=abc
 i12:QgD s1 s2=0
 r12:QhK s1 s2=bc
 ibc:QgD s0 bc=0
 rbc:QhK s0 bc=abc
 i00:QgD s0 s0=0
 r00:QhK s0 s0=s0
 ok0:QdV s0/\s0.ents.length<=n/\s0.ticks.length<=n
 ok1:QdV s1/\s1.ents.length<=n/\s1.ticks.length<=n
 ok2:QdV s2/\s2.ents.length<=n/\s2.ticks.length<=n
 okab:QdV ab/\ab.ents.length<=n/\ab.ticks.length<=n
 okbc:QdV bc/\bc.ents.length<=n/\bc.ticks.length<=n
 okabc:abc.ents.length<=n/\abc.ticks.length<=n
end Go.Vx
namespace Go.Vx
theorem QlI (l:List Cen):(QdD l).length=l.length:=by
 refine Qbe (motive:=fun l=>(QdD l).length=l.length) rfl (fun l e ih=>?_) l
 rw [QgO,Qh7,ih,QQ7];rfl
end Go.Vx
namespace Go.Vx
def naE (e:Cen):Bool:=!decide (e.kind=1)
variable {s:Sta} {c n:Int} {k:Nat} {bi sm:Int}
end Go.Vx
namespace Go.Vx
open Go.RowKit Go.Shelf
theorem Own.drewN {w0 w:World} {M:Nat->Prop} {L:List Res} (h:Own w0 M w L) (n:Nat):Own w0 M (w.drewN n) L:=by
 obtain ⟨a,b,c,d,e,S,f,g,i,j⟩:=h
 exact ⟨a,⟨b.1,Nat.le_trans b.2 (Nat.le_add_right _ _)⟩,c,d,e,S,fun k R hk=>R.loc w _ _ (fun _ _=>rfl) (f k R hk),g,i,j⟩
theorem Qwq {P:Program} {J:Ren} (L:Go.Proofs.SlLaysF0.n48 P J) (T:TypeId) (w:World) (S:Nat->Prop) (rb X:Nat) (hX:X<18446744073709551616) (hR:(blk rb [.int .u64 (X:Int)] T).holds w S) (hlt:∀ x,S x->x<w.heap.size) :
  Calls P (J.f 48) #[.pointer (some ⟨rb,0,none⟩)] w (fun e w'=>∃ _u:Unit,e = .returned (.int .u64 ((Sort.xorNextN X:Nat):Int))/\Own w S w' [blk rb [.int .u64 ((Sort.xorNextN X:Nat):Int)] T]/\True):=by
 have hs:=Own.lent hR hlt
 have hb:=hR.2
 refine (Go.Proofs.AnyF.xorshift_Next L rb 0 X hX w ?_ ?_).mono ?_
 ·rw [cell_of_row w rb 0 _ T _ hb];rfl
 ·exact frozen_of_row w rb 0 _ T hb
 rintro e w' ⟨he,rfl⟩
 refine ⟨(),he,?_,trivial⟩
 rw [setCell_eq_setRow w rb 0 _ T (0,0) _ hb]
 exact (hs.set_blk 0 rfl (cs':=[.int .u64 ((Sort.xorNextN X:Nat):Int)])).drewN 3
theorem Qv9 {P:Program} {J:Ren} (L:Go.Proofs.SlLaysF0.n47 P J) (w:World) (n:Nat) (hn:n<4611686018427387904) :
  Calls P (J.f 47) #[.int .i64 (n:Int)] w (fun e w'=>e = .returned (.int .u64 (((1 <<< Sort.bitsLen n:Nat):Nat):Int))/\Own w no w' []) :=
 (Go.Proofs.AnyF.nextPowerOfTwo L n hn w).mono fun e w' ⟨he,hw⟩=>by subst hw;exact ⟨he,Own.start _⟩
theorem QtP {a b:Nat} (ha:a<18446744073709551616) (hb:b<18446744073709551616):bits .and .u64 (a:Int) (b:Int)=((a &&& b:Nat):Int):=bits_and_u64_nat a b ha hb
def bpS (lo len md:Nat) (s0:UInt64 × Array Int) (i0:Nat):Nat->UInt64 × Array Int
 | 0=>s0
 | q+1=>Sort.breakStep lo len md (bpS lo len md s0 i0 q) (i0+q)
def QgZ (lo len md r:Nat):Nat:=if (Sort.xorNextN r &&& (md-1)) ≥ len then (Sort.xorNextN r &&& (md-1))-len else Sort.xorNextN r &&& (md-1)
theorem Qln {lo len md i0 q:Nat} {s0:UInt64 × Array Int}:((bpS lo len md s0 i0 (q+1)).1.toNat=Sort.xorNextN (bpS lo len md s0 i0 q).1.toNat)/\(bpS lo len md s0 i0 (q+1)).2=Sort.swp (bpS lo len md s0 i0 q).2 (i0+q) (lo+QgZ lo len md (bpS lo len md s0 i0 q).1.toNat):=by
 constructor
 ·show (Sort.xorNext _).toNat=_
  rw [Sort.xorNext_toNat]
 show Sort.swp _ _ _=_
 unfold QgZ
 rw [← Sort.xorNext_toNat]
theorem QtM {d:Array Int} {lo hi:Nat} (h:8<=hi-lo):(bpS lo (hi-lo) (1 <<< Sort.bitsLen (hi-lo)) (UInt64.ofNat (hi-lo),d) (lo+((hi-lo)/4)*2-1) 3).2=Sort.breakPatterns d lo hi:=by
 unfold Sort.breakPatterns
 dsimp only
 rw [if_pos h]
 rfl
theorem QvX {n:Nat} (h:0<n):n<1 <<< Sort.bitsLen n/\1 <<< Sort.bitsLen n<=2*n:=by
 rw [Nat.one_shiftLeft];exact ⟨Sort.lt_two_pow_bitsLen n,Sort.two_pow_bitsLen_le h⟩
theorem QpP {lo len r:Nat} (h:0<len):QgZ lo len (1 <<< Sort.bitsLen len) r<len:=by
 have hm:=QvX h
 have:=Nat.and_le_right (n:=Sort.xorNextN r) (m:=1 <<< Sort.bitsLen len-1)
 unfold QgZ;split<;>omega
end Go.Vx
namespace Go.Vx
open Go.RowKit Go.Shelf
def Qsj (P:Program) (f T:Nat):Prop:=∀ (w:World) (S:Nat->Prop) (rb X:Nat),X<18446744073709551616->(blk rb [.int .u64 (X:Int)] T).holds w S->(∀ x,S x->x<w.heap.size) ->
  Calls P f #[.pointer (some ⟨rb,0,none⟩)] w (fun e w'=>∃ _u:Unit,e = .returned (.int .u64 ((Sort.xorNextN X:Nat):Int))/\Own w S w' [blk rb [.int .u64 ((Sort.xorNextN X:Nat):Int)] T]/\True)
def QtA (P:Program) (f:Nat):Prop:=∀ (w:World) (n:Nat),n<4611686018427387904->Calls P f #[.int .i64 (n:Int)] w (fun e w'=>e = .returned (.int .u64 (((1 <<< Sort.bitsLen n:Nat):Nat):Int))/\Own w no w' [])
def Qxa (P:Program) (f:Nat):Prop:=∀ (w:World) (n:Nat),n<4611686018427387904->Calls P f #[.int .u64 (n:Int)] w (fun e w'=>e = .returned (.int .i64 ((Sort.bitsLen n:Nat):Int))/\Own w no w' [])
theorem Qli {lo len md i0 N:Nat} {s0:UInt64 × Array Int} (h:s0.2.size=N):∀ q,(bpS lo len md s0 i0 q).2.size=N
 | 0=>h
 | q+1=>by rw [Qln.2,Sort.size_swp];exact Qli h q
end Go.Vx
namespace Go.Vx
open Go.RowKit
def Qg2 (P:Program) (f:Nat) (k:IntKind) (E:Nat):Prop:=∀ (w:World) (S:Nat->Prop) (a:Option Addr) (c:Nat) (l:List Int),(row (.slice a l.length c) (l.map (ic k)) E 1).holds w S->(∀ x,S x->x<w.heap.size)->l.length<=2305843009213693951 ->
  Calls P f #[.slice a l.length c] w fun e w'=>e = .returned (.tuple #[])/\Own w S w' [row (.slice a l.length c) ((QaO l).map (ic k)) E 1]
end Go.Vx
namespace Go.Proofs
open Go Go.Vx Go.RowKit
open Tryz
namespace Tt
theorem Qwe:T1 prog 211:=⟨sizeOf211,isAgg211⟩
theorem QvE:En prog 134:=call134
theorem Qm8:En prog 160:=call160
theorem Qua:En prog 162:=call162
theorem QvS:En prog 163:=call163
theorem QuP:En prog 172:=call172
theorem Qu5:En prog 173:=call173
theorem QwA:En prog 174:=call174
theorem Qv8:En prog 175:=call175
theorem Qwt:En prog 176:=call176
theorem Qwa:En prog 177:=call177
theorem Qdr:En prog 178:=call178
theorem Qvj:En prog 179:=call179
theorem Qus:En prog 180:=call180
theorem Qr6:En prog 185:=call185
theorem QoI:En prog 186:=call186
theorem Qn1:En prog 187:=call187
theorem Qm1:En prog 189:=call189
theorem Qw2:En prog 92:=call92
theorem Qv0:Ud prog 211 (.int .u64):=runUnderlying211
theorem Qwo:Zv prog 211 (.int .u64 0):=zeroValue211
theorem Qya:Zv prog 3 (.int .i64 0):=zeroValue3
end Tt
end Go.Proofs
namespace Go.Vx
def opP (l:List Opn) (c n:Int) (o:Opn):Bool:=decide (o.cart=c)&&(decide (o.item=n)&&(!decide (o.kind=4)&&Qbm l o))
def ofO (l:List Opn) (c n:Int) (k:Nat):List Cen:=((l.take k).filter (opP l c n)).map Qdh
def Qfr (l:List Opn) (c n:Int) (k:Nat) (bi:Int):Prop:=(bi = -1/\QdW ((ofO l c n k).filter naE)=none)∨∃ j:Nat,bi=(j:Int)/\j<k/\QdW ((ofO l c n k).filter naE)=some (Qdh (gd l j))
section
variable {l:List Opn} {c n:Int} {k:Nat} {bi sm:Int}
theorem Qoi (hk:k<l.length) (h:opP l c n (gd l k)=false):ofO l c n (k+1)=ofO l c n k:=by unfold ofO;rw [Qbf hk,List.filter_append];simp [h]
theorem QhY (hk:k<l.length) (h:opP l c n (gd l k)=true):ofO l c n (k+1)=ofO l c n k++[Qdh (gd l k)]:=by unfold ofO;rw [Qbf hk,List.filter_append];simp [h]
theorem QnC (h:Qfr l c n k bi) (hk:k<=l.length):-1<=bi/\bi<(l.length:Int):=by
 rcases h with ⟨h,_⟩|⟨j,h,h2,_⟩<;>rw [h]<;>omega
theorem QkP {k2:Nat} (h:Qfr l c n k bi) (hk:k<=k2) (e:(ofO l c n k2).filter naE=(ofO l c n k).filter naE):Qfr l c n k2 bi:=by
 rcases h with ⟨h1,h2⟩|⟨j,h1,h2,h3⟩
 ·exact .inl ⟨h1,by rw [e];exact h2⟩
 exact .inr ⟨j,h1,by omega,by rw [e];exact h3⟩
theorem QhM (h:Qfr l c n k bi) (hk:k<l.length) (hi:opP l c n (gd l k)=false):Qfr l c n (k+1) bi:=QkP h (by omega) (by rw [Qoi hk hi])
theorem Qoe (h:Qfr l c n k bi) (hk:k<l.length) (hi:opP l c n (gd l k)=true) (h1:(gd l k).kind=1):Qfr l c n (k+1) bi:=QkP h (by omega) (by rw [QhY hk hi,List.filter_append];simp [naE,Qdh,h1])
theorem Qje (hk:k<l.length) (hi:opP l c n (gd l k)=true) (h1:¬(gd l k).kind=1):(ofO l c n (k+1)).filter naE=(ofO l c n k).filter naE++[Qdh (gd l k)]:=by
 rw [QhY hk hi,List.filter_append];simp [naE,Qdh,h1]
theorem Ql8 (h:Qfr l c n k bi) (hk:k<l.length) (hi:opP l c n (gd l k)=true) (h1:¬(gd l k).kind=1) (ht:(decide (bi<0)||Qc7 (gd l bi.toNat) (gd l k))=true):Qfr l c n (k+1) (k:Int):=by
 refine .inr ⟨k,rfl,by omega,?_⟩
 rw [Qje hk hi h1,QdS]
 rcases h with ⟨e,h2⟩|⟨j,e,h2,h3⟩
 ·rw [h2]
 rw [h3]
 dsimp only
 have:Qc7 (gd l j) (gd l k)=true:=by
  rw [e,Int.toNat_natCast,QQ4 (by omega)] at ht;simpa using ht
 rw [if_pos (by rw [QgN];exact this)]
theorem Ql9 (h:Qfr l c n k bi) (hk:k<l.length) (hi:opP l c n (gd l k)=true) (h1:¬(gd l k).kind=1) (ht:(decide (bi<0)||Qc7 (gd l bi.toNat) (gd l k))=false):Qfr l c n (k+1) bi:=by
 rcases h with ⟨e,h2⟩|⟨j,e,h2,h3⟩
 ·rw [e] at ht;simp at ht
 refine .inr ⟨j,e,by omega,?_⟩
 rw [Qje hk hi h1,QdS,h3]
 dsimp only
 have:Qc7 (gd l j) (gd l k)=false:=by
  rw [e,Int.toNat_natCast,QQ4 (by omega)] at ht;simpa using ht
 rw [if_neg (by rw [QgN,this];decide)]
theorem Qq7 (h:sm=Qfy (ofO l c n k)) (hk:k<l.length) (hi:opP l c n (gd l k)=true) (h1:(gd l k).kind=1):(sm+(gd l k).qty)%4294967296=Qfy (ofO l c n (k+1)):=by
 rw [QhY hk hi,Qem,if_pos (show (Qdh (gd l k)).kind=1 from h1),h];rfl
theorem QoU (h:sm=Qfy (ofO l c n k)) (hk:k<l.length) (hi:opP l c n (gd l k)=true) (h1:¬(gd l k).kind=1):sm=Qfy (ofO l c n (k+1)):=by
 rw [QhY hk hi,Qem,if_neg (show ¬(Qdh (gd l k)).kind=1 from h1),h]
theorem Qij (hk:¬k<l.length):ofO l c n k=ofO l c n l.length:=by unfold ofO;rw [List.take_of_length_le (by omega),List.take_length]
def QhW (l:List Opn) (c n:Int):Int:=Qeg (ofO l c n l.length)
theorem QoX (hs:sm=Qfy (ofO l c n k)) (hb:Qfr l c n k bi) (hk:¬k<l.length) (h:0<=bi):(sm+(gd l bi.toNat).qty)%4294967296=QhW l c n:=by
 rw [Qij hk] at hs
 rcases hb with ⟨e,_⟩|⟨j,e,_,h3⟩
 ·omega
 rw [Qij hk] at h3
 unfold QhW Qeg
 rw [show (ofO l c n l.length).filter (fun e=>!decide (e.kind=1))=(ofO l c n l.length).filter naE from rfl,h3,hs,e,Int.toNat_natCast];rfl
theorem Qn2 (hE:∀ o∈l,QbL o) (hs:sm=Qfy (ofO l c n k)) (hb:Qfr l c n k bi) (hk:¬k<l.length) (h:¬0<=bi):sm=QhW l c n:=by
 rw [Qij hk] at hs
 rcases hb with ⟨e,h3⟩|⟨j,e,_,_⟩
 ·rw [Qij hk] at h3
  unfold QhW Qeg
  rw [show (ofO l c n l.length).filter (fun e=>!decide (e.kind=1))=(ofO l c n l.length).filter naE from rfl,h3,hs]
  have:=QsP (ofO l c n l.length) fun e he=>by
   obtain ⟨o,ho,rfl⟩:=List.mem_map.1 he
   exact (hE o (List.mem_of_mem_take (List.mem_filter.1 ho).1)).2.2.2.2.1.1
  simp only [Int.add_zero]
  exact (Int.emod_eq_of_lt this.1 this.2).symm
 omega
def QrT (l:List Opn) (c:Int) (o:Opn):Bool:=decide (o.cart=c)&&(!decide (o.kind=4)&&Qbm l o)
def QdA (l:List Opn) (c:Int) (k:Nat):List Int:=((l.take k).filter (QrT l c)).map (·.item)
theorem QoK {last nx:Int} (h:nx=Qc6 last (QdA l c k)) (hk:k<l.length) (hh:QrT l c (gd l k)=true) (h1:last<(gd l k).item) (h2:nx<0∨(gd l k).item<nx):(gd l k).item=Qc6 last (QdA l c (k+1)):=by
 unfold QdA Qc6 at *
 rw [Qbf hk,List.filter_append,List.map_append,List.foldl_append,← h]
 simp [hh,h1,h2]
theorem QqK {last nx:Int} (h:nx=Qc6 last (QdA l c k)) (hk:k<l.length) (hn:¬(QrT l c (gd l k)=true/\last<(gd l k).item/\(nx<0∨(gd l k).item<nx))):nx=Qc6 last (QdA l c (k+1)):=by
 unfold QdA Qc6 at *
 rw [Qbf hk,List.filter_append,List.map_append,List.foldl_append,← h]
 by_cases hh:QrT l c (gd l k)=true
 ·have h2:¬(last<(gd l k).item/\(nx<0∨(gd l k).item<nx)):=fun g=>hn ⟨hh,g⟩
  simp only [List.filter_cons,hh,if_true,List.filter_nil,List.map_cons,List.map_nil,List.foldl_cons,List.foldl_nil]
  rw [if_neg h2]
 simp [hh]
def Qd2 (l:List Opn) (c last:Int):Int:=Qc6 last (QdA l c l.length)
theorem Qmw (hk:¬k<l.length):QdA l c k=QdA l c l.length:=by unfold QdA;rw [List.take_of_length_le (by omega),List.take_length]
theorem Qih (hE:∀ o∈l,QbL o):∀ x∈QdA l c k,0<=x/\x<65536:=fun x hx=>by
 obtain ⟨o,ho,rfl⟩:=List.mem_map.1 hx
 exact (hE o (List.mem_of_mem_take (List.mem_filter.1 ho).1)).2.2.2.1
theorem Qs8 (hE:∀ o∈l,QbL o) {last:Int} (h0:-1<=last):-1<=Qd2 l c last/\Qd2 l c last<65536/\(¬Qd2 l c last<0->last<Qd2 l c last):=by
 have hb:=Qih (c:=c) (k:=l.length) hE
 unfold Qd2
 rcases QfY last h0 (QdA l c l.length) fun x hx=>(hb x hx).1 with ⟨h,_⟩|⟨h1,h2,_⟩
 ·rw [h];exact ⟨by decide,by decide,fun g=>absurd (by decide) g⟩
 have:=hb _ h1;exact ⟨by omega,this.2,fun _=>h2⟩
def tkO (l:List Opn) (c:Int):Int:=(tmax l c).getD 0
theorem Qvk (hk:k<l.length) (h:¬(gd l k).cart=c):tkO (l.take (k+1)) c=tkO (l.take k) c:=by unfold tkO;rw [Qbf hk,Qfz,if_neg h]
theorem Qs5 (hE:∀ o∈l,QbL o) (hk:k<l.length) (h:(gd l k).cart=c):tkO (l.take (k+1)) c=max (tkO (l.take k) c) (gd l k).tick:=by
 have ht:=(hE _ (Qbo hk)).2.2.2.2.2.1.1
 unfold tkO;rw [Qbf hk,Qfz,if_pos h]
 cases tmax (l.take k) c with
 | none=>show (gd l k).tick=max 0 (gd l k).tick;omega
 | some u=>rfl
def QqP (l:List Opn) (c:Int) (o:Opn):Bool:=decide (o.cart=c)&&(decide (o.kind=4)&&Qbm l o)
def Qcd (l:List Opn) (c:Int):Vw:=⟨c,(Qen (QdA l c l.length)).map fun n=>⟨n,QhW l c n⟩,l.any (QqP l c),tkO l c⟩
end
end Go.Vx
namespace Go.Proofs
open Go Go.Vx Go.RowKit
open Tryz
namespace Tt
theorem Qwv:T1 prog 145:=⟨sizeOf145,isAgg145⟩
theorem Qtt:T1 prog 69:=⟨sizeOf69,isAgg69⟩
theorem QeT:TA prog 147 25:=⟨sizeOf147,isAgg147⟩
theorem QuK:En prog 130:=call130
theorem Qv2:En prog 131:=call131
theorem QuD:En prog 132:=call132
theorem Qvt:En prog 133:=call133
theorem QuB:En prog 135:=call135
theorem Qv6:En prog 159:=call159
theorem Quk:En prog 44:=call44
theorem QxM:En prog 82:=call82
theorem QwN:En prog 83:=call83
theorem Quq:En prog 84:=call84
theorem QxG:En prog 85:=call85
theorem Qwr:En prog 89:=call89
theorem Qio:FA prog 147 0 0:=fun b o w=>by simp [Instr.fieldAt,Instr.sureAddr,fieldPlace,Qbk]
theorem Qh9:FA prog 147 1 1:=fun b o w=>by simp [Instr.fieldAt,Instr.sureAddr,fieldPlace,Qbk]
theorem QkG:FA prog 147 2 24:=fun b o w=>by simp [Instr.fieldAt,Instr.sureAddr,fieldPlace,Qbk]
theorem QjX:KeyOk prog 32 (Value.int .u16):=QoG runUnderlying32 _
theorem Qlo:Ud prog 145 (.map 32 147):=runUnderlying145
theorem Qku:Zv prog 147 (.agg (talc (⟨0,(⟨(⟨0,0⟩:Dot),0,0,0,0,0,vzero⟩:Opn),false⟩:Tal)).toArray):=zeroValue147
end Tt
end Go.Proofs
namespace Go.Vx
structure Pst where
 base:Sta
 ops:List Opn
 known:Vec
def Qld (kn:Vec) (l:List Opn) (i:Nat):Bool:=!Qbh (gd l i) 16||QbD kn (gd l i).dot||((l.take i).any fun x=>decide (x.dot=(gd l i).dot))
def Qcy (p:Pst):Bool:=((List.range p.ops.length).all fun i=>!Qld p.base.known p.ops i)&&Qaw p.base
def Qbu (p:Pst) (cut:Vec):Int:=if Qcy p=false then 2 else if QaQ cut 16=false then 13 else if vle cut p.known=false then 11 else if vle p.base.known cut=false then 12 else 0
theorem Qhv {p:Pst} {i:Nat} (hi:i<p.ops.length) (h:Qld p.base.known p.ops i=true):Qcy p=false:=by
 unfold Qcy
 have:((List.range p.ops.length).all fun i=>!Qld p.base.known p.ops i)=false:=by
  rw [List.all_eq_false];exact ⟨i,List.mem_range.2 hi,by simp [h]⟩
 rw [this];rfl
theorem QgX {p:Pst} (h:∀ i,i<p.ops.length->Qld p.base.known p.ops i=false):Qcy p=Qaw p.base:=by
 unfold Qcy
 have:((List.range p.ops.length).all fun i=>!Qld p.base.known p.ops i)=true:=by
  rw [List.all_eq_true];intro i hi;simp [h i (List.mem_range.1 hi)]
 rw [this,Bool.true_and]
def Qee (p:Pst):Prop:=QdV p.base/\(∀ o∈p.ops,QbL o)/\QbH p.known
def Qfh (b:Bool):Int:=if b=true then 1 else 0
def QiF (l:List Opn):List (Dot × Unit):=l.foldl (fun m e=>mput e.dot () m) []
theorem QhG (l:List Opn) (e:Opn):QiF (l++[e])=mput e.dot () (QiF l):=by unfold QiF;rw [List.foldl_append];rfl
theorem QiJ (l:List Opn) (d:Dot):(mget d (QiF l)).isSome=l.any fun x=>decide (x.dot=d):=by
 refine Qbe (motive:=fun l=>(mget d (QiF l)).isSome=l.any fun x=>decide (x.dot=d)) rfl (fun l a ih=>?_) l
 rw [QhG,Qg8,ih,List.any_append]
 simp only [List.any_cons,List.any_nil,Bool.or_false]
 rw [Bool.or_comm,show decide (d=a.dot)=decide (a.dot=d) from decide_eq_decide.2 eq_comm]
theorem Qlz {l:List Opn} {k:Nat} (hk:k<l.length):QiF (l.take (k+1))=mput (gd l k).dot () (QiF (l.take k)):=by rw [Qbf hk,QhG]
structure OpsC (kn:Vec) (l:List Opn):Prop where
 ok:∀ o∈l,QcJ o=true
 fr:∀ o∈l,QbD kn o.dot=false
 nd:(l.map (·.dot)).Nodup
theorem Qvx {kn:Vec} {l:List Opn} (h:∀ i,i<l.length->Qld kn l i=false):OpsC kn l:=by
 have h3:∀ i,i<l.length->QcJ (gd l i)=true/\QbD kn (gd l i).dot=false/\((l.take i).any fun x=>decide (x.dot=(gd l i).dot))=false:=fun i hi=>by
  have:=h i hi
  unfold Qld at this
  rw [Bool.or_eq_false_iff,Bool.or_eq_false_iff] at this
  exact ⟨by rw [← Qcc];simpa using this.1.1,this.1.2,this.2⟩
 refine ⟨fun o ho=>?_,fun o ho=>?_,?_⟩
 ·obtain ⟨i,hi,rfl⟩:=List.mem_iff_getElem.1 ho
  have:=(h3 i hi).1;simpa [gd,hi] using this
 ·obtain ⟨i,hi,rfl⟩:=List.mem_iff_getElem.1 ho
  have:=(h3 i hi).2.1;simpa [gd,hi] using this
 refine List.pairwise_iff_getElem.2 fun i j hi hj hij=>?_
 rw [QQ6] at hi hj
 rw [List.getElem_map,List.getElem_map]
 intro e
 have h4:=(h3 j hj).2.2
 rw [List.any_eq_false] at h4
 have h5:=h4 l[i] (List.mem_take_iff_getElem.2 ⟨i,by omega,rfl⟩)
 simp [gd,hj] at h5
 exact h5 e
theorem QdT {p:Pst} (h:Qcy p=true):OpsC p.base.known p.ops/\RightC p.base:=by
 have hb:∀ i,i<p.ops.length->Qld p.base.known p.ops i=false:=fun i hi=>by
  cases e:Qld p.base.known p.ops i with
  | false=>rfl
  | true=>rw [Qhv hi e] at h;cases h
 exact ⟨Qvx hb,Qc2.1 (by rw [← QgX hb];exact h)⟩
theorem Qej {p:Pst} {cut:Vec} (h:Qbu p cut=0):Qcy p=true/\QaQ cut 16=true/\vle cut p.known=true/\vle p.base.known cut=true:=by
 unfold Qbu at h
 cases h1:Qcy p<;>cases h2:QaQ cut 16<;>cases h3:vle cut p.known<;>cases h4:vle p.base.known cut<;>simp [h1,h2,h3,h4] at h ⊢
def Qhl (u:List Opn) (x:Cen):Bool:=!(u.any fun o=>Qay o (QaG x))
def Qcb (b:List Cen) (u:List Opn):List Cen:=b++(u.filter QaX).map Qdh
def Ql7 (b:List Cen) (u:List Opn):List Cen:=QdD ((Qcb b u).filter (Qhl u))
def Qb6 (s:List Lst) (u:List Opn):List Lst:=u.foldl (fun m o=>QdP o.cart o.tick m) s
def Qg9 (p:Pst) (cut:Vec):Sta:=⟨cut,Ql7 p.base.ents (Qaq p.ops cut),Qb6 p.base.ticks (Qaq p.ops cut)⟩
def Qag (p:Pst) (cut:Vec):Sta:=if Qbu p cut=0 then Qg9 p cut else szero
theorem Qb8 (s:List Lst) (u:List Opn) (o:Opn):Qb6 s (u++[o])=QdP o.cart o.tick (Qb6 s u):=by unfold Qb6;rw [List.foldl_append];rfl
theorem QcK {s:List Lst} (hs:QdQ s):∀ u:List Opn,QdQ (Qb6 s u):=by
 refine Qbe (motive:=fun t=>QdQ (Qb6 s t)) hs fun t x ih=>?_
 rw [Qb8];exact Qie ih
theorem Ql1 {s:List Lst}:∀ u:List Opn,(Qb6 s u).length<=s.length+u.length:=by
 refine Qbe (motive:=fun t=>(Qb6 s t).length<=s.length+t.length) (Nat.le_refl _) fun t x ih=>?_
 rw [Qb8,QQ7]
 have:=Qic (c:=x.cart) (t:=x.tick) (Qb6 s t)
 simp;omega
theorem Qj3 {p:Pst} (h:Qcy p=true) (cut:Vec):((Qcb p.base.ents (Qaq p.ops cut)).map (·.dot)).Nodup:=by
 obtain ⟨ho,hb⟩:=QdT h
 unfold Qcb
 rw [List.map_append,List.nodup_append]
 refine ⟨hb.nd,?_,?_⟩
 ·rw [List.map_map]
  exact ho.nd.sublist ((List.filter_sublist.trans List.filter_sublist).map _)
 intro d hd e he hde
 subst hde
 obtain ⟨x,hx,rfl⟩:=List.mem_map.1 hd
 rw [List.map_map] at he
 obtain ⟨o,hoM,e2⟩:=List.mem_map.1 he
 have h1:=ho.fr o (Qb3 (List.mem_filter.1 hoM).1)
 have h2:=hb.ent x hx
 unfold Qlr at h2
 simp only [Bool.and_eq_true] at h2
 have h3:o.dot=x.dot:=e2
 rw [h3,h2.1.1.2] at h1
 cases h1
theorem QdR {p:Pst} (h:Qcy p=true) (cut:Vec):(((Qcb p.base.ents (Qaq p.ops cut)).filter (Qhl (Qaq p.ops cut))).map (·.dot)).Nodup :=
 (Qj3 h cut).sublist (List.filter_sublist.map _)
theorem Qpq {p:Pst} (h:Qcy p=true) {cut:Vec} {m:List Cen} (hm:Qlk ((Qcb p.base.ents (Qaq p.ops cut)).filter (Qhl (Qaq p.ops cut))) m):m=Ql7 p.base.ents (Qaq p.ops cut) :=
 QtL (QdR h cut) hm
theorem Qg6 {p:Pst} (h:Qcy p=true) (cut:Vec) (x:Cen):x∈(Qg9 p cut).ents↔x∈Qcb p.base.ents (Qaq p.ops cut)/\Qhl (Qaq p.ops cut) x=true:=by
 show x∈Ql7 _ _↔_
 unfold Ql7
 rw [(Qfd _ (QdR h cut)).2,List.mem_filter]
def tk0 (ts:List Lst):List (Int × Int):=ts.foldl (fun m x=>mput x.cart x.tick m) []
def tkM (m:List (Int × Int)) (u:List Opn):List (Int × Int):=u.foldl (fun m o=>mput o.cart (max ((mget o.cart m).getD 0) o.tick) m) m
theorem Qqk {ts:List Lst} {k:Nat} (hk:k<ts.length):tk0 (ts.take (k+1))=mput (gd ts k).cart (gd ts k).tick (tk0 (ts.take k)):=by
 rw [Qbf hk];unfold tk0;rw [List.foldl_append];rfl
theorem Qh2 (m:List (Int × Int)) (u:List Opn) (o:Opn):tkM m (u++[o])=mput o.cart (max ((mget o.cart (tkM m u)).getD 0) o.tick) (tkM m u):=by unfold tkM;rw [List.foldl_append];rfl
theorem Qks {k v:Int} {m:List (Int × Int)} (h:(m.map (·.1)).Nodup):((mput k v m).map (·.1)).Nodup:=by
 rw [Qcj]
 split
 ·exact h
 rename_i hn
 rw [List.nodup_append]
 exact ⟨h,by simp,fun a ha b hb e=>by simp at hb;subst hb;subst e;exact hn ha⟩
theorem Qmk {ts:List Lst} {x:Lst} (h:∀ y∈ts,y.cart<x.cart) (c:Int):QaL (ts++[x]) c=if c=x.cart then some x.tick else QaL ts c:=by
 unfold QaL
 rw [List.find?_append]
 by_cases e:c=x.cart
 ·rw [if_pos e]
  have:(ts.find? fun y=>decide (y.cart=c))=none:=List.find?_eq_none.2 fun y hy=>by have:=h y hy;simp;omega
  rw [this];simp [e]
 rw [if_neg e]
 have:([x].find? fun y=>decide (y.cart=c))=none:=by simp;omega
 rw [this,Option.or_none]
theorem QrY:∀ ts:List Lst,QdQ ts->((tk0 ts).map (·.1)).Nodup/\(∀ c,mget c (tk0 ts)=QaL ts c)/\(tk0 ts).length<=ts.length:=by
 refine Qbe (motive:=fun ts=>QdQ ts->((tk0 ts).map (·.1)).Nodup/\(∀ c,mget c (tk0 ts)=QaL ts c)/\(tk0 ts).length<=ts.length) (fun _=>⟨by simp [tk0],fun c=>rfl,Nat.le_refl _⟩) fun ts x ih hr=>?_
 obtain ⟨hr1,hr2⟩:QdQ ts/\∀ y∈ts,y.cart<x.cart:=by
  unfold QdQ at hr;rw [List.pairwise_append] at hr
  exact ⟨hr.1,fun y hy=>hr.2.2 y hy x (by simp)⟩
 obtain ⟨h1,h2,h3⟩:=ih hr1
 have e:tk0 (ts++[x])=mput x.cart x.tick (tk0 ts):=by unfold tk0;rw [List.foldl_append];rfl
 rw [e]
 refine ⟨Qks h1,fun c=>?_,?_⟩
 ·rw [Qdn,Qmk hr2,h2]
 have:=Qlb (k:=x.cart) (v:=x.tick) (l:=tk0 ts);rw [QQ7,List.length_singleton];omega
theorem QrN {s:List Lst} {m:List (Int × Int)} (hs:QdQ s) (hn:(m.map (·.1)).Nodup) (hm:∀ c,mget c m=QaL s c):∀ u:List Opn,(∀ o∈u,0<=o.tick)->((tkM m u).map (·.1)).Nodup/\(∀ c,mget c (tkM m u)=QaL (Qb6 s u) c)/\(tkM m u).length<=m.length+u.length:=by
 refine Qbe (motive:=fun u=>(∀ o∈u,0<=o.tick)->((tkM m u).map (·.1)).Nodup/\(∀ c,mget c (tkM m u)=QaL (Qb6 s u) c)/\(tkM m u).length<=m.length+u.length) (fun _=>⟨hn,hm,Nat.le_refl _⟩) fun u o ih ho=>?_
 obtain ⟨h1,h2,h3⟩:=ih fun x hx=>ho x (List.mem_append_left _ hx)
 rw [Qh2,Qb8]
 refine ⟨Qks h1,fun c=>?_,?_⟩
 ·rw [Qdn,Qc9 (QcK hs u),h2]
  have h0:=ho o (by simp)
  by_cases e:c=o.cart
  ·rw [if_pos e,if_pos e]
   cases QaL (Qb6 s u) o.cart with
   | none=>simp;omega
   | some t=>rfl
  rw [if_neg e,if_neg e,h2]
 have:=Qlb (k:=o.cart) (v:=max ((mget o.cart (tkM m u)).getD 0) o.tick) (l:=tkM m u);rw [QQ7,List.length_singleton];omega
def tkL (m:List (Int × Int)) (n:Int):Lst:=⟨n,(mget n m).getD 0⟩
theorem Qng {t:List Lst} {m:List (Int × Int)} (ht:QdQ t) (hn:(m.map (·.1)).Nodup) (hm:∀ c,mget c m=QaL t c):(QaO (m.map (·.1))).map (tkL m)=t:=by
 have hr:QdQ ((QaO (m.map (·.1))).map (tkL m)):=List.pairwise_map.2 (Qet hn)
 refine Qkt hr ht fun c=>?_
 by_cases e:c∈m.map (·.1)
 ·have h1:tkL m c∈(QaO (m.map (·.1))).map (tkL m):=List.mem_map.2 ⟨c,Qfg.2 e,rfl⟩
  have h2:=(QeJ hr (tkL m c)).1 h1
  have h3:(mget c m).isSome=true:=by rw [QcD];simpa using e
  have h4:QaL ((QaO (m.map (·.1))).map (tkL m)) c=some ((mget c m).getD 0):=h2
  rw [h4,← hm]
  cases h5:mget c m with
  | none=>rw [h5] at h3;cases h3
  | some v=>rfl
 have h3:(mget c m).isSome=false:=by rw [QcD];simpa using e
 have h5:mget c m=none:=by cases h5:mget c m with|none=>rfl|some v=>rw [h5] at h3;cases h3
 rw [← hm,h5]
 unfold QaL
 rw [List.find?_eq_none.2 fun y hy=>?_]
 ·rfl
 obtain ⟨n,hn1,rfl⟩:=List.mem_map.1 hy
 have:=Qfg.1 hn1
 intro e2
 have e3:n=c:=QQ1 e2
 subst e3;exact e this
theorem Qkl {p:Pst} (h:Qcy p=true) (ho:∀ o∈p.ops,QbL o) (u:List Opn) (hu:∀ o∈u,o∈p.ops):(QaO ((tkM (tk0 p.base.ticks) u).map (·.1))).map (tkL (tkM (tk0 p.base.ticks) u))=Qb6 p.base.ticks u:=by
 obtain ⟨hc,hb⟩:=QdT h
 obtain ⟨h1,h2,_⟩:=QrY _ hb.rt
 obtain ⟨g1,g2,_⟩:=QrN hb.rt h1 h2 u fun o hm=>(ho o (hu o hm)).2.2.2.2.2.1.1
 exact Qng (QcK hb.rt u) g1 g2
end Go.Vx
namespace Go.Vx
theorem Qly {b:List Cen} {u:List Opn} {o:Opn} (h:QaX o=true):Qcb b u++[Qdh o]=Qcb b (u++[o]):=by
 unfold Qcb;rw [List.filter_append,List.map_append,List.append_assoc];simp [h]
theorem QoT {b:List Cen} {u:List Opn} {o:Opn} (h:QaX o=false):Qcb b u=Qcb b (u++[o]):=by
 unfold Qcb;rw [List.filter_append,List.map_append];simp [h]
theorem QeM {b:List Cen} {u:List Opn} {x:Cen} (h:x∈Qcb b u):x∈b∨∃ o∈u,QaX o=true/\x=Qdh o:=by
 unfold Qcb at h
 rcases List.mem_append.1 h with h|h
 ·exact .inl h
 obtain ⟨o,ho,rfl⟩:=List.mem_map.1 h
 have:=List.mem_filter.1 ho
 exact .inr ⟨o,this.1,this.2,rfl⟩
theorem QlB {p:Pst} (hok:Qee p) {u:List Opn} (hu:∀ o∈u,o∈p.ops):∀ x∈Qcb p.base.ents u,QcS x.dot:=by
 intro x hx
 rcases QeM hx with h|⟨o,ho,_,rfl⟩
 ·exact (hok.1.2.1 x h).2.2.2.2.1
 exact (hok.2.1 o (hu o ho)).1
theorem QlP (b:List Cen) (u:List Opn):(Qcb b u).length<=b.length+u.length:=by
 unfold Qcb;rw [QQ7,QQ6];have:=List.length_filter_le QaX u;omega
theorem Qoo {p:Pst} {cut:Vec} (h:¬Qbu p cut=0):Qag p cut=szero:=if_neg h
theorem QlS {p:Pst} {cut:Vec} {u:List Opn} {m:List Cen} {T:List Lst} (hok:Qee p) (hI:Qbu p cut=0) (hu:u=Qaq p.ops cut) (hm:Qlk ((Qcb p.base.ents u).filter (Qhl u)) m) (hT:T=(QaO ((tkM (tk0 p.base.ticks) u).map (·.1))).map (tkL (tkM (tk0 p.base.ticks) u))):Qag p cut=⟨cut,m,T⟩:=by
 have hr:=(Qej hI).1
 subst hu
 have hE:=Qpq hr hm
 have hT2:=Qkl hr hok.2.1 (Qaq p.ops cut) fun o h=>Qb3 h
 unfold Qag;rw [if_pos hI,hE,hT,hT2];rfl
theorem Qsn {p:Pst} (hok:Qee p) (h:Qcy p=true) (u:List Opn) (hu:∀ o∈u,o∈p.ops):(tkM (tk0 p.base.ticks) u).length<=p.base.ticks.length+u.length:=by
 obtain ⟨hc,hb⟩:=QdT h
 obtain ⟨h1,h2,h3⟩:=QrY _ hb.rt
 obtain ⟨g1,g2,g3⟩:=QrN hb.rt h1 h2 u fun o hm=>(hok.2.1 o (hu o hm)).2.2.2.2.2.1.1
 omega
end Go.Vx
namespace Go.Vx
theorem QjE {p:Pst} {cut:Vec} {u:List Opn} {L m:List Cen} {T:List Lst} {tm:List (Int × Int)} (hok:Qee p) (hI:Qbu p cut=0) (hu:u=Qaq p.ops cut) (hL:L=Qcb p.base.ents u) (hm:Qlk (L.filter (Qhl u)) m) (ht:tm=tkM (tk0 p.base.ticks) u) (hT:T=(QaO (tm.map (·.1))).map (tkL tm)):Qag p cut=⟨cut,m,T⟩:=by
 subst hL;subst ht
 exact QlS hok hI hu hm hT
end Go.Vx
namespace Go.Vx
theorem Qib {u:List Opn} {o:Opn}:Qhl u (Qdh o) = !(u.any fun x=>Qay x o):=rfl
end Go.Vx
namespace Go.Proofs
open Go Go.Vx Go.RowKit
open Tryz
namespace Tt
theorem Qj5:T1 prog 29:=⟨sizeOf29,isAgg29⟩
theorem QdB:TA prog 43 35:=⟨sizeOf43,isAgg43⟩
theorem QxL:En prog 59:=call59
theorem QwS:En prog 97:=call97
theorem Qe4:FA prog 43 0 0:=fun b o w=>by simp [Instr.fieldAt,Instr.sureAddr,fieldPlace,Qbk]
theorem QiA:FA prog 43 1 18:=fun b o w=>by simp [Instr.fieldAt,Instr.sureAddr,fieldPlace,Qbk]
theorem Qix:FA prog 43 2 19:=fun b o w=>by simp [Instr.fieldAt,Instr.sureAddr,fieldPlace,Qbk]
end Tt
end Go.Proofs
namespace Go.Vx
open Go.RowKit
abbrev Str:=List UInt8
abbrev sv (l:Str):Value:=.string ⟨l.toArray⟩
def sc (l:Str):List Value:=[sv l]
end Go.Vx
namespace Go.Vx
open Go.RowKit
abbrev Pt:=Option Addr
abbrev pt (p:Nat):Pt:=some ⟨p,0,none⟩
structure Thg where
 p:Nat
 bs:List Int
 sf:Nat
structure Chg where
 to:Str
 fr:Str
 t:Pt
structure Dk where
 room:Int
 ts:List Thg
 nm:List (Str × Pt)
 sf:List (Str × Pt)
 ch:List Chg
instance:Inhabited Thg:=⟨⟨0,[],0⟩⟩
instance:Inhabited Chg:=⟨⟨[],[],none⟩⟩
def pts (ts:List Thg):List Pt:=ts.map fun t=>pt t.p
def doC (l:List (Str × Pt)) (c:Chg):List (Str × Pt) :=
 let l1:=if c.fr=[] then l else mdel c.fr l
 match c.t with
 | none=>mdel c.to l1
 | some a=>mput c.to (some a) l1
def Qhg (l:List (Str × Pt)) (cs:List Chg):List (Str × Pt):=cs.foldl doC l
def Qyi (m:Dk) (c:Chg):Dk:={ m with nm:=doC m.nm c,ch:=m.ch++[c] }
section
variable (TD TT U8 TP TC:Nat)
def thP (t:Thg) (a:Option Addr) (c:Nat):List Res:=[blk t.p [.slice a t.bs.length c,.int .i64 ((t.sf:Nat):Int)] TT,row (.slice a t.bs.length c) (t.bs.map (ic .u8)) U8 1]
def thR (t:Thg):Res:=exR fun x:Option Addr × Nat=>star (thP TT U8 t x.1 x.2)
structure DkA where
 a:Option Addr
 c:Nat
 r1:Nat
 r2:Nat
 a2:Option Addr
 c2:Nat
end
section
variable {TD TT U8 TP TC:Nat} {w w0:World} {M:Nat->Prop} {L:List Res}
theorem QpR {w:World} {S:Nat->Prop}:∀ {ts:List Thg},(star (ts.map (thR TT U8))).holds w S->(ts.map (·.p)).Nodup/\∀ t∈ts,S t.p:=by
 intro ts ⟨T,t1,t2,t3⟩
 have h1:∀ (i:Nat) t,ts[i]?=some t->T i t.p:=by
  intro i t hi
  obtain ⟨x,T2,u1,u2,u3⟩:=t1 i (thR TT U8 t) (by rw [List.getElem?_map,hi];rfl)
  have:=(u1 0 _ rfl).1
  exact (u3 _).2 ⟨0,by simp [thP],this⟩
 refine ⟨?_,fun t ht=>?_⟩
 ·unfold List.Nodup
  rw [List.pairwise_iff_getElem]
  intro i j hi hj hij he
  simp only [QQ6] at hj
  simp only [List.getElem_map] at he
  have a1:=h1 i _ (List.getElem?_eq_getElem (Nat.lt_trans hij hj))
  have a2:=h1 j _ (List.getElem?_eq_getElem hj)
  rw [he] at a1
  have:=t2 i j _ a1 a2
  omega
 obtain ⟨i,hi⟩:=List.mem_iff_getElem?.1 ht
 exact (t3 _).2 ⟨i,by have:=QaZ hi;simpa using this,h1 i t hi⟩
theorem Own.things (h:Own w0 M w L) (k:Nat) {ts:List Thg} (hk:L[k]?=some (star (ts.map (thR TT U8)))):(ts.map (·.p)).Nodup:=by
 obtain ⟨S,hS,_⟩:=h.get k hk
 exact (QpR hS).1
def ThF (w:World) (ts:List Thg):Prop:=∀ t∈ts,∃ a c,QbW w t.p [.slice a t.bs.length c,.int .i64 ((t.sf:Nat):Int)]/\Rd w (.slice a t.bs.length c) 1 (t.bs.map (ic .u8))
theorem ThF.own' {ts:List Thg} (h:ThF w0 ts) (hs:Own w0 no w L):ThF w ts:=fun t ht=>by
 obtain ⟨a,c,h1,h2⟩:=h t ht
 exact ⟨a,c,h1.own' hs,h2.own' hs⟩
end
end Go.Vx
namespace Go.Vx
open Go.RowKit
theorem QtY {ts:List Thg} {i:Nat} {t t':Thg} (hi:ts[i]?=some t) (hp:t'.p=t.p):pts (ts.set i t')=pts ts:=by
 unfold pts
 rw [List.map_set,hp]
 apply List.ext_getElem?
 intro j
 rw [List.getElem?_set]
 by_cases q:i=j
 ·subst q;have:=QaZ hi;simp [this,List.getElem?_eq_getElem this] at hi ⊢;rw [hi]
 rw [if_neg q]
def Qx3 (m:Dk) (s:Str) (p:Nat) (bs:List Int):Dk:={ m with ts:=m.ts++[⟨p,bs,0⟩],nm:=doC m.nm ⟨s,[],pt p⟩,ch:=m.ch++[⟨s,[],pt p⟩] }
end Go.Vx
namespace Go.Vx
open Go.RowKit
section
variable {κ ν:Type} [DecidableEq κ]
theorem QgF (k:κ) (v:ν):∀ (l:List (κ × ν)),(mput k v l).map (·.1)=if k∈l.map (·.1) then l.map (·.1) else l.map (·.1)++[k]
 | []=>by simp [mput]
 | (a,b) :: l=>by
  unfold mput
  split
  ·rename_i e;subst e;simp
  rename_i e
  simp only [List.map_cons,QgF k v l,List.mem_cons,e,false_or]
  split<;>simp
theorem QeE {k:κ} {v:ν} {x:κ × ν}:∀ {l:List (κ × ν)},x∈mput k v l->x=(k,v)∨x∈l
 | [],h=>by simp [mput] at h;exact .inl h
 | (a,b) :: l,h=>by
  unfold mput at h
  split at h
  ·rcases List.mem_cons.1 h with e|e
   ·exact .inl e
   exact .inr (List.mem_cons_of_mem _ e)
  rcases List.mem_cons.1 h with e|e
  ·exact .inr (e ▸ List.mem_cons_self)
  rcases QeE e with e|e
  ·exact .inl e
  exact .inr (List.mem_cons_of_mem _ e)
theorem QgL {k:κ} {v:ν}:∀ {l:List (κ × ν)},(l.map (·.2)).Nodup->v ∉ l.map (·.2)->((mput k v l).map (·.2)).Nodup
 | [],_,_=>by simp [mput]
 | (a,b) :: l,hn,hv=>by
  simp only [List.map_cons,List.nodup_cons,List.mem_cons,not_or] at hn hv
  unfold mput
  split
  ·simp only [List.map_cons,List.nodup_cons];exact ⟨hv.2,hn.2⟩
  simp only [List.map_cons,List.nodup_cons]
  refine ⟨fun h=>?_,QgL hn.2 hv.2⟩
  obtain ⟨x,hx,he⟩:=List.mem_map.1 h
  rcases QeE hx with e|e
  ·subst e;exact hv.1 he
  exact hn.1 (List.mem_map.2 ⟨x,e,he⟩)
theorem Qhc {k:κ} {v:ν} {j:κ}:∀ {l:List (κ × ν)},mget j (mput k v l)=if j=k then some v else mget j l
 | []=>by unfold mput mget;simp [mget]
 | (a,b) :: l=>by
  unfold mput
  split
  ·rename_i e;subst e
   unfold mget
   by_cases h:j=k<;>simp [h]
  rename_i e
  unfold mget
  by_cases h:j=a
  ·subst h;simp [show ¬j=k from fun e2=>e e2.symm]
  rw [if_neg h,Qhc];simp [h]
end
structure KOk (ts:List Thg) (l:List (Str × Pt)):Prop where
 keys:(l.map (·.1)).Nodup
 vals:(l.map (·.2)).Nodup
 some:∀ x∈l,x.2∈pts ts
 long:∀ x∈l,1<=x.1.length
theorem KOk.nil (ts:List Thg):KOk ts []:=⟨by simp,by simp,by simp,by simp⟩
theorem KOk.to {ts ts':List Thg} {l:List (Str × Pt)} (h:KOk ts l) (hp:∀ x∈pts ts,x∈pts ts'):KOk ts' l:=⟨h.keys,h.vals,fun x hx=>hp _ (h.some x hx),h.long⟩
theorem KOk.put {ts:List Thg} {l:List (Str × Pt)} (h:KOk ts l) {s:Str} (hs:1<=s.length) {v:Pt} (hv:v ∉ l.map (·.2)) (ht:v∈pts ts):KOk ts (mput s v l):=by
 refine ⟨?_,QgL h.vals hv,fun x hx=>?_,fun x hx=>?_⟩
 ·rw [QgF]
  split
  ·exact h.keys
  rename_i q
  rw [List.nodup_append]
  exact ⟨h.keys,by simp,by intro a ha b hb;simp at hb;subst hb;exact fun e=>q (e ▸ ha)⟩
 ·rcases QeE hx with e|e
  ·subst e;exact ht
  exact h.some x e
 rcases QeE hx with e|e
 ·subst e;exact hs
 exact h.long x e
structure DOk (N:Nat) (m:Dk):Prop where
 nm:m.nm=Qhg m.sf m.ch
 keys:∀ k,k<=m.ch.length->KOk m.ts (Qhg m.sf (m.ch.take k))
 chs:∀ k∈m.ch,k.t=none∨∃ p,k.t=pt p
 safe:∀ t∈m.ts,t.sf<=t.bs.length
 nts:m.ts.length<=N
 nch:m.ch.length<=N
 bytes:(m.ts.map (·.bs.length)).sum<=1000*N
theorem DOk.now {N:Nat} {m:Dk} (h:DOk N m):KOk m.ts m.nm:=by
 have:=h.keys m.ch.length (Nat.le_refl _)
 rw [List.take_length,← h.nm] at this
 exact this
theorem DOk.mono {N N':Nat} {m:Dk} (h:DOk N m) (hn:N<=N'):DOk N' m:=⟨h.nm,h.keys,h.chs,h.safe,by have:=h.nts;omega,by have:=h.nch;omega,by have:=h.bytes;omega⟩
theorem DOk.new (room:Int):DOk 0 ⟨room,[],[],[],[]⟩:=⟨rfl,fun k hk=>by simp [Qhg];exact KOk.nil _,by simp,by simp,Nat.le_refl _,Nat.le_refl _,by simp⟩
theorem Qs7 {ts:List Thg} {t:Thg} (h:t∈ts):t.bs.length<=(ts.map (·.bs.length)).sum:=by
 induction ts with
 | nil=>cases h
 | cons u ts ih =>
  simp only [List.map_cons,List.sum_cons]
  rcases List.mem_cons.1 h with e|e
  ·subst e;omega
  have:=ih e;omega
theorem DOk.len {N:Nat} {m:Dk} (h:DOk N m) {t:Thg} (ht:t∈m.ts):t.bs.length<=1000*N:=Nat.le_trans (Qs7 ht) h.bytes
theorem Qkv {α:Type} {l:List α} {a:α} {k:Nat} (h:k<=l.length):(l++[a]).take k=l.take k:=by
 rw [List.take_append_of_le_length h]
theorem Qfn (l:List (Str × Pt)) (cs:List Chg) (c:Chg):Qhg l (cs++[c])=doC (Qhg l cs) c:=by simp [Qhg]
theorem DOk.chg {N:Nat} {m:Dk} (h:DOk N m) {c:Chg} (hc:c.t=none∨∃ p,c.t=pt p) (hk:KOk m.ts (doC m.nm c)):DOk (N+1) (Qyi m c):=by
 refine ⟨?_,fun k hkl=>?_,fun k hk1=>?_,h.safe,by have:=h.nts;show m.ts.length<=N+1;omega,by have:=h.nch;show (m.ch++[c]).length<=N+1;simp;omega,by have:=h.bytes;show (m.ts.map (·.bs.length)).sum<=1000*(N+1);omega⟩
 ·show doC m.nm c=Qhg m.sf (m.ch++[c])
  rw [Qfn,← h.nm]
 ·show KOk m.ts (Qhg m.sf ((m.ch++[c]).take k))
  have hkl':k<=m.ch.length+1:=by have:k<=(m.ch++[c]).length:=hkl;simpa using this
  by_cases q:k<=m.ch.length
  ·rw [Qkv q];exact h.keys k q
  have:k=(m.ch++[c]).length:=by simp;omega
  rw [this,List.take_length,Qfn,← h.nm];exact hk
 have:k∈m.ch++[c]:=hk1
 rcases List.mem_append.1 this with e|e
 ·exact h.chs k e
 simp at e;subst e;exact hc
theorem DOk.things {N:Nat} {m:Dk} {ts:List Thg} (h:DOk N m) (hp:pts ts=pts m.ts) (hs:∀ t∈ts,t.sf<=t.bs.length) (hb:(ts.map (·.bs.length)).sum<=1000*(N+1)):DOk (N+1) { m with ts:=ts }:=by
 have hl:ts.length=m.ts.length:=by have:=congrArg List.length hp;simpa [pts] using this
 exact ⟨h.nm,fun k hk=>(h.keys k hk).to (by intro x hx;show x∈pts ts;rw [hp];exact hx),h.chs,hs,by have:=h.nts;show ts.length<=N+1;omega,by have:=h.nch;show m.ch.length<=N+1;omega,hb⟩
theorem QnY {l:List (Str × Pt)} {s:Str} {p:Nat}:doC l ⟨s,[],pt p⟩=mput s (pt p) l:=by unfold doC;simp
theorem DOk.newT {N:Nat} {m:Dk} (h:DOk N m) {s:Str} {p:Nat} {bs:List Int} (hs:1<=s.length) (hp:∀ t∈m.ts,t.p≠p) (hb:bs.length<=1000):DOk (N+1) (Qx3 m s p bs):=by
 have hpts:pts (m.ts++[(⟨p,bs,0⟩:Thg)])=pts m.ts++[pt p]:=by simp [pts]
 have hno:pt p ∉ pts m.ts:=fun hx=>by
  obtain ⟨t,ht,he⟩:=List.mem_map.1 hx
  simp at he;exact hp t ht he
 have hto:∀ x∈pts m.ts,x∈pts (m.ts++[(⟨p,bs,0⟩:Thg)]):=fun x hx=>by rw [hpts];simp [hx]
 have hput:KOk (m.ts++[(⟨p,bs,0⟩:Thg)]) (doC m.nm ⟨s,[],pt p⟩):=by
  rw [QnY]
  exact (h.now.to hto).put hs (fun hx=>by obtain ⟨y,hy,he⟩:=List.mem_map.1 hx;exact hno (he ▸ h.now.some y hy)) (by rw [hpts];simp)
 refine ⟨?_,fun k hkl=>?_,fun k hk1=>?_,fun t ht=>?_,?_,?_,?_⟩
 ·show doC m.nm ⟨s,[],pt p⟩=Qhg m.sf (m.ch++[(⟨s,[],pt p⟩:Chg)])
  rw [Qfn,← h.nm]
 ·show KOk (m.ts++[(⟨p,bs,0⟩:Thg)]) (Qhg m.sf ((m.ch++[(⟨s,[],pt p⟩:Chg)]).take k))
  have hkl':k<=m.ch.length+1:=by have:k<=(m.ch++[(⟨s,[],pt p⟩:Chg)]).length:=hkl;simpa using this
  by_cases q:k<=m.ch.length
  ·rw [Qkv q];exact (h.keys k q).to hto
  have:k=(m.ch++[(⟨s,[],pt p⟩:Chg)]).length:=by simp;omega
  rw [this,List.take_length,Qfn,← h.nm];exact hput
 ·have:k∈m.ch++[(⟨s,[],pt p⟩:Chg)]:=hk1
  rcases List.mem_append.1 this with e|e
  ·exact h.chs k e
  rw [List.mem_singleton] at e;subst e;exact .inr ⟨p,rfl⟩
 ·have:t∈m.ts++[(⟨p,bs,0⟩:Thg)]:=ht
  rcases List.mem_append.1 this with e|e
  ·exact h.safe t e
  simp at e;subst e;simp
 ·have:=h.nts;show (m.ts++[(⟨p,bs,0⟩:Thg)]).length<=N+1;simp;omega
 ·have:=h.nch;show (m.ch++[(⟨s,[],pt p⟩:Chg)]).length<=N+1;simp;omega
 have:=h.bytes;show ((m.ts++[(⟨p,bs,0⟩:Thg)]).map (·.bs.length)).sum<=1000*(N+1);simp;omega
theorem Qpw {ts:List Thg} {i:Nat} {t t':Thg} (hi:ts[i]?=some t):((ts.set i t').map (·.bs.length)).sum+t.bs.length=(ts.map (·.bs.length)).sum+t'.bs.length:=by
 induction ts generalizing i with
 | nil=>simp at hi
 | cons u ts ih =>
  cases i with
  | zero=>simp at hi;subst hi;simp;omega
  | succ i=>have:=ih (i:=i) (by simpa using hi);simp at this ⊢;omega
theorem DOk.app {N:Nat} {m:Dk} (h:DOk N m) {i:Nat} {t:Thg} (hi:m.ts[i]?=some t) {bs:List Int} (hb:bs.length<=1000):DOk (N+1) { m with ts:=m.ts.set i { t with bs:=t.bs++bs } }:=by
 refine h.things (QtY hi rfl) (fun u hu=>?_) ?_
 ·rcases List.mem_or_eq_of_mem_set hu with e|e
  ·exact h.safe u e
  subst e;have:=h.safe t (List.mem_of_getElem? hi);simp;omega
 have:=Qpw (t':={ t with bs:=t.bs++bs }) hi
 have:=h.bytes
 simp only [QQ7] at *
 omega
end Go.Vx
namespace Go.Vx
open Go.RowKit
def RdX (w:World) (v:Value) (k:Nat) (ls:List (List Value)):Prop:=Rd w v k ls∨(ls=[]/\∃ a,v = .slice (some a) 0 0)
section
variable {w w0:World} {M:Nat->Prop} {L:List Res} {v:Value} {k:Nat} {ls:List (List Value)}
theorem Rd.emp_own (h:Rd w v k []) (w':World):Rd w' v k []:=⟨h.len,h.small,h.shape,by simp,h.room⟩
theorem RdX.own (h:RdX w0 v k ls) (hs:Own w0 M w L) (hm:ls≠[]->¬M (bkS v)):RdX w v k ls:=by
 rcases h with h|h
 ·by_cases q:ls=[]
  ·subst q;exact .inl (h.emp_own w)
  exact .inl (h.own hs (hm q))
 exact .inr h
theorem RdX.own' (h:RdX w0 v k ls) (hs:Own w0 no w L):RdX w v k ls:=h.own hs (fun _ h=>h)
theorem RdX.pos (h:RdX w v k ls) (hp:ls.length≠0):Rd w v k ls:=by
 rcases h with h|h
 ·exact h
 exact absurd (by rw [h.1];rfl) hp
theorem RdX.sml {α:Type} {enc:α->List Value} {l:List α} (h:RdX w v k (l.map enc)):l.length<=9223372036854775807:=by
 rcases h with h|⟨h,_⟩
 ·exact h.sml
 have:l=[]:=by simpa using h
 subst this;simp
theorem RdX.old (h:RdX w v k ls) (hk:0<k) (hp:ls≠[]):bkS v<w.heap.size:=by
 have h1:=h.pos (by intro e;exact hp (List.eq_nil_of_length_eq_zero e))
 rcases h1.shape with ⟨_,e⟩|⟨b,o,c,rfl⟩
 ·exact absurd e hp
 cases ls with
 | nil=>exact absurd rfl hp
 | cons l ls =>
  have hl:=h1.len l (by simp)
  have h2:=h1.cell 0 0 l (l[0]'(by omega)) (by simp) (List.getElem?_eq_getElem _)
  exact World.block_lt_of_cell? w ⟨b,o+0*k+0,none⟩ h2
end
structure Dact where
 kind:Int
 nm:Str
 ot:Str
 ba:Option Addr
 bc:Nat
 bs:List Int
 chg:Int
 ca:Option Addr
 cc:Nat
 cuts:List Int
 num:Int
instance:Inhabited Dact:=⟨⟨0,[],[],none,0,[],0,none,0,[],0⟩⟩
structure ActOk (w:World) (x:Dact):Prop where
 kind:0<=x.kind/\x.kind<256
 rb:RdX w (.slice x.ba x.bs.length x.bc) 1 (x.bs.map (ic .u8))
 bs:∀ y∈x.bs,0<=y/\y<256
 chg:0<=x.chg/\x.chg<256
 rc:RdX w (.slice x.ca x.cuts.length x.cc) 1 (x.cuts.map (ic .u8))
 cuts:∀ y∈x.cuts,0<=y/\y<256
 num:-9223372036854775808<=x.num/\x.num<=9223372036854775807
theorem ActOk.own' {w0 w:World} {L:List Res} {x:Dact} (h:ActOk w0 x) (hs:Own w0 no w L):ActOk w x:=⟨h.kind,h.rb.own' hs,h.bs,h.chg,h.rc.own' hs,h.cuts,h.num⟩
theorem ActOk.ownS {w0 w:World} {M:Nat->Prop} {L:List Res} {x:Dact} (h:ActOk w0 x) (hs:Own w0 M w L) (hb:x.bs≠[]->¬M (bkS (.slice x.ba x.bs.length x.bc))) (hc:x.cuts≠[]->¬M (bkS (.slice x.ca x.cuts.length x.cc))):ActOk w x :=
 ⟨h.kind,h.rb.own hs (fun q=>hb (by intro e;exact q (by rw [e];rfl))),h.bs,h.chg,h.rc.own hs (fun q=>hc (by intro e;exact q (by rw [e];rfl))),h.cuts,h.num⟩
end Go.Vx
namespace Go.Vx
open Go.RowKit
def QuC:List Value:=[.int .i64 0,.slice none 0 0,.map none,.map none,.slice none 0 0,.bool false,.int .i64 0]
def Nob (w:World) (v:Value):Prop:=v = .pointer none∨∃ b,v = .pointer (some ⟨b,0,none⟩)/\QbW w b QuC
theorem Nob.own' {w0 w:World} {L:List Res} {v:Value} (h:Nob w0 v) (hs:Own w0 no w L):Nob w v:=by
 rcases h with h|⟨b,h,hc⟩
 ·exact .inl h
 exact .inr ⟨b,h,hc.own' hs⟩
structure Qs (N:Nat) (s:Str) (p:Nat) (bs:List Int) (sf:Nat) (room:Int) (m:Dk):Prop where
 ok:DOk N m
 get:mget s m.nm=some (pt p)
 at_:∃ i:Nat,m.ts[i]?=some ⟨p,bs,sf⟩
 room:m.room=room
structure Qt (N:Nat) (s:Str) (p:Nat) (bs:List Int) (sf:Nat) (room:Int) (m:Dk):Prop where
 q:Qs N s p bs sf room m
 safe:mget s m.sf=some (pt p)
 ch:∀ k∈m.ch,k.fr=[]/\k.to≠s
theorem Qs.i {N:Nat} {s:Str} {p:Nat} {bs:List Int} {sf:Nat} {room:Int} {m:Dk} (h:Qs N s p bs sf room m):∃ i:Nat,m.ts[i]?=some ⟨p,bs,sf⟩:=h.at_
theorem Qt.app {N:Nat} {s:Str} {p:Nat} {bs cs:List Int} {sf:Nat} {room:Int} {m:Dk} (h:Qt N s p bs sf room m) {i:Nat} (hi:m.ts[i]?=some ⟨p,bs,sf⟩) (hc:cs.length<=1000):Qt (N+1) s p (bs++cs) sf room { m with ts:=m.ts.set i ⟨p,bs++cs,sf⟩ } :=
 ⟨⟨h.q.ok.app hi hc,h.q.get,⟨i,by show (m.ts.set i _)[i]?=_;rw [List.getElem?_set_self (QaZ hi)]⟩,h.q.room⟩,h.safe,h.ch⟩
theorem Qt.new {N:Nat} {s s2:Str} {p p2:Nat} {bs cs:List Int} {sf:Nat} {room:Int} {m:Dk} (h:Qt N s p bs sf room m) (hs:1<=s2.length) (hne:s2≠s) (hp:∀ t∈m.ts,t.p≠p2) (hc:cs.length<=1000):Qt (N+1) s p bs sf room (Qx3 m s2 p2 cs):=by
 obtain ⟨i,hi⟩:=h.q.at_
 refine ⟨⟨h.q.ok.newT hs hp hc,?_,⟨i,?_⟩,h.q.room⟩,h.safe,fun k hk=>?_⟩
 ·show mget s (doC m.nm ⟨s2,[],pt p2⟩)=_
  rw [QnY,Qhc,if_neg (fun e=>hne e.symm)];exact h.q.get
 ·show (m.ts++[_])[i]?=_
  rw [List.getElem?_append_left (QaZ hi)];exact hi
 have:k∈m.ch++[(⟨s2,[],pt p2⟩:Chg)]:=hk
 rcases List.mem_append.1 this with e|e
 ·exact h.ch k e
 rw [List.mem_singleton] at e;subst e;exact ⟨rfl,hne⟩
end Go.Vx
namespace Go.Vx
open Go.RowKit
def Kept (w:World) (S:Nat->Prop) (R:Res):Prop:=∃ T,R.holds w T/\∀ b,S b->¬T b
section
variable {w w0 w1:World} {S M:Nat->Prop} {L L1:List Res}
theorem Rd.ownE {v:Value} {k:Nat} {ls:List (List Value)} (h:Rd w0 v k ls) (hs:Own w0 M w L) (hm:ls≠[]->¬M (bkS v)):Rd w v k ls:=by
 by_cases q:ls=[]
 ·subst q;exact h.emp_own w
 exact h.own hs (hm q)
theorem Kept.cells {b T:Nat} {cs:List Value} (h:Kept w S (blk b cs T)) (hs:Own w S w1 L1):QbW w1 b cs:=by
 obtain ⟨T',hk,hd⟩:=h
 have hb:¬S b:=fun hS=>hd b hS hk.1
 have h0:QbW w b cs:=fun j u hj=>by
  rw [cell_of_row w b j _ T _ hk.2];simpa using hj
 exact h0.own hs hb
theorem Kept.rd {v:Value} {ls:List (List Value)} {E k:Nat} (h:Kept w S (row v ls E k)) (hs:Own w S w1 L1):Rd w1 v k ls:=by
 obtain ⟨T',hk,hd⟩:=h
 refine (Rd.of_row hk).ownE hs fun hne hS=>?_
 obtain ⟨_,hown,hT⟩:=hk
 rcases hown.2 with ⟨hv,hn⟩|⟨g,cap,cur,hv,_⟩
 ·exact hne (List.eq_nil_of_length_eq_zero (by simpa using hn))
 subst hv;exact hd g hS (hT g rfl)
end
section
variable {P:Program} {ty:TypeId} {e:Operand->Value} {w:World} {K:Value->World->Prop} {w0:World} {M:Nat->Prop} {L:List Res}
theorem Qj6 {α:Type} {f:FuncId} {xs:List Operand} {vs:List Value} {ats:Array TypeId} {V:α->Value} {R:Res} {R':α->Res} {Lo:α->List Res} {F:α->World->Prop} (hf:En P f) (hef:e (.func f) = .func (.func f) #[] #[]) (hv:xs.map e=vs)
  (hs:Own w0 M w L) (i:Nat) (hi:L[i]?=some R)
  (hc:∀ S,R.holds w S->(∀ b,S b->b<w.heap.size)->(∀ j,j≠i->∀ Rj,L[j]?=some Rj->Kept w S Rj)->Calls P f vs.toArray w fun r w'=>∃ x,r = .returned (V x)/\Own w S w' (R' x :: Lo x)/\F x w') (h:∀ x w',Own w0 M w' (L.set i (R' x)++Lo x)->F x w'->K (V x) w') :
  opW P (.call { callee:=.value (.func f),args:=xs.toArray,argTypes:=ats }) ty e w K:=by
 obtain ⟨S,hR,hlt,_,hd,hback⟩:=hs.lend3 i hi
 exact Qe6 hf hef (by rw [List.map_toArray,hv]) ((hc S hR hlt hd).mono fun r w' ⟨x,hr,ho,hF⟩=>⟨V x,hr,h x w' (hback w' _ _ ho) hF⟩)
end
theorem Qsx {α:Type} {p:α->Bool} {l:List α}:decide (0<=Qe7 p l)=l.any p:=by
 unfold Qe7
 cases l.any p with
 | true=>rw [if_pos rfl];exact QQ3 (by omega)
 | false=>rw [if_neg (by decide)];rfl
end Go.Vx
namespace Go.Proofs
open Go Go.Vx Go.RowKit
open Tryz
namespace Tt
theorem Quj:T1 prog 100:=⟨sizeOf100,isAgg100⟩
theorem Qvs:En prog 148:=call148
theorem QvQ:En prog 17:=call17
theorem Qws:En prog 35:=call35
theorem Qxm:En prog 43:=call43
theorem QxP:En prog 45:=call45
theorem Qxi:En prog 47:=call47
theorem Qxe:En prog 48:=call48
theorem QxZ:En prog 50:=call50
theorem Qvq:En prog 57:=call57
theorem Qx1:En prog 96:=call96
theorem Qjx:Ud prog 100 (.map 32 22):=runUnderlying100
theorem QuG:Zv prog 22 (.int .u32 0):=zeroValue22
theorem QwZ:Zv prog 29 (.slice none 0 0):=zeroValue29
end Tt
end Go.Proofs
namespace Go.Vx
theorem Qjf {a b:Vec} {d:Dot} (h:vle a b=true) (ha:QbD a d=true):QbD b d=true:=by
 unfold QbD at *
 simp only [Bool.and_eq_true,decide_eq_true_eq] at *
 exact ⟨ha.1,by have:=Qmr h d.rep.toNat;omega⟩
theorem QnL {s:List Lst} (hs:∀ x∈s,QiT x):∀ u:List Opn,(∀ o∈u,QbL o)->∀ x∈Qb6 s u,QiT x:=by
 refine Qbe (motive:=fun u=>(∀ o∈u,QbL o)->∀ x∈Qb6 s u,QiT x) (fun _=>hs) fun u o ih ho=>?_
 rw [Qb8]
 have:=ho o (by simp)
 exact Qj1 ⟨this.2.2.1,this.2.2.2.2.2.1⟩ (ih fun x hx=>ho x (List.mem_append_left _ hx))
theorem QoN {s:List Lst} {B:Int} (hr:QdQ s) (hs:∀ x∈s,x.tick<=B):∀ u:List Opn,(∀ o∈u,o.tick<=B)->∀ c t,QaL (Qb6 s u) c=some t->t<=B:=by
 refine Qbe (motive:=fun u=>(∀ o∈u,o.tick<=B)->∀ c t,QaL (Qb6 s u) c=some t->t<=B) (fun _ c t h=>hs ⟨c,t⟩ ((QeJ hr ⟨c,t⟩).2 h)) fun u o ih ho c t h=>?_
 rw [Qb8,Qc9 (QcK hr u)] at h
 have ih2:=ih fun x hx=>ho x (List.mem_append_left _ hx)
 have h0:=ho o (by simp)
 split at h
 ·cases h2:QaL (Qb6 s u) o.cart with
  | none=>rw [h2] at h;cases h;exact h0
  | some v =>
   rw [h2] at h
   have h3:max v o.tick=t:=Option.some.inj h
   have:=ih2 _ _ h2;omega
 exact ih2 c t h
theorem Ql3 {s:List Lst} (hr:QdQ s) {c:Int} (h0:(QaL s c).isSome=true):∀ u:List Opn,(QaL (Qb6 s u) c).isSome=true:=by
 refine Qbe (motive:=fun u=>(QaL (Qb6 s u) c).isSome=true) h0 fun u o ih=>?_
 rw [Qb8,Qc9 (QcK hr u)]
 split
 ·rfl
 exact ih
theorem Qo6 {s:List Lst} (hr:QdQ s):∀ u:List Opn,∀ o∈u,(QaL (Qb6 s u) o.cart).isSome=true:=by
 refine Qbe (motive:=fun u=>∀ o∈u,(QaL (Qb6 s u) o.cart).isSome=true) (fun o h=>by cases h) fun u x ih o ho=>?_
 rw [Qb8,Qc9 (QcK hr u)]
 split
 ·rfl
 rename_i hne
 rcases List.mem_append.1 ho with h|h
 ·exact ih o h
 simp at h;subst h;exact absurd rfl hne
theorem QnJ {p:Pst} {cut:Vec} (hr:Qcy p=true) (hok:Qee p) (hc:QbH cut):QdV (Qg9 p cut):=by
 refine ⟨hc,fun e he=>?_,fun x hx=>?_⟩
 ·rcases QeM ((Qg6 hr cut e).1 he).1 with h|⟨o,ho,_,rfl⟩
  ·exact hok.1.2.1 e h
  exact QnM (hok.2.1 o (Qb3 ho))
 exact QnL hok.1.2.2 _ (fun o ho=>hok.2.1 o (Qb3 ho)) x hx
theorem QfE {p:Pst} {cut:Vec} (hok:Qee p) (hc:QbH cut):QdV (Qag p cut):=by
 unfold Qag;split
 ·rename_i h;exact QnJ (Qej h).1 hok hc
 exact Qh5
theorem Qd5 (p:Pst) (cut:Vec):(Qag p cut).ents.length<=p.base.ents.length+p.ops.length/\(Qag p cut).ticks.length<=p.base.ticks.length+p.ops.length:=by
 have h1:=Qel p.ops cut
 unfold Qag;split
 ·refine ⟨?_,?_⟩
  ·show (Ql7 _ _).length<=_
   unfold Ql7
   rw [QlI]
   have h2:=List.length_filter_le (Qhl (Qaq p.ops cut)) (Qcb p.base.ents (Qaq p.ops cut))
   have h3:=QlP p.base.ents (Qaq p.ops cut)
   omega
  show (Qb6 _ _).length<=_
  have:=Ql1 (s:=p.base.ticks) (Qaq p.ops cut)
  omega
 exact ⟨Nat.zero_le _,Nat.zero_le _⟩
theorem QlK {o:Opn} (h:QcJ o=true) (hl:QaX o=true):Qdg (Qdh o)=true:=by
 unfold QcJ at h
 simp only [Bool.and_eq_true] at h
 have hkk:=h.2
 unfold Qci at hkk
 unfold Qdg Qdh
 rcases Qjd.1 hl with g|g|g
 ·simp [g] at hkk ⊢;exact hkk
 ·simp [g]
 simp [g] at hkk ⊢;exact hkk
theorem QnX {α β:Type} {f:α->β} {l:List α} (h:(l.map f).Nodup):l.Nodup:=by
 unfold List.Nodup at h ⊢
 rw [List.pairwise_map] at h
 exact h.imp fun {a b} hab e=>hab (by rw [e])
theorem QgP {p:Pst} {cut:Vec} (hok:Qee p) (hI:Qbu p cut=0):RightC (Qg9 p cut):=by
 obtain ⟨hr,hcut,_,hle⟩:=Qej hI
 obtain ⟨hc,hb⟩:=QdT hr
 have hu:∀ o∈Qaq p.ops cut,o∈p.ops/\QbD cut o.dot=true:=fun o h=>List.mem_filter.1 h
 have hT:=QcK hb.rt (Qaq p.ops cut)
 refine ⟨hcut,hT,fun x hx=>?_,?_,fun e he=>?_,?_⟩
 ·refine QoN hb.rt hb.tick (Qaq p.ops cut) (fun o ho=>?_) x.cart x.tick ((QeJ hT x).1 hx)
  have:=hc.ok o (hu o ho).1
  unfold QcJ at this
  simp only [Bool.and_eq_true,decide_eq_true_eq] at this
  exact this.1.2
 ·exact (Qfd _ (QdR hr cut)).1
 ·rcases QeM ((Qg6 hr cut e).1 he).1 with h|⟨o,ho,hl,rfl⟩
  ·have h2:=hb.ent e h
   unfold Qlr at h2 ⊢
   simp only [Bool.and_eq_true,decide_eq_true_eq] at h2 ⊢
   exact ⟨⟨⟨⟨Ql3 hb.rt h2.1.1.1.1 _,h2.1.1.1.2⟩,Qjf hle h2.1.1.2⟩,h2.1.2⟩,h2.2⟩
  have hoo:=hu o ho
  have hrt:=hc.ok o hoo.1
  have hcn:=QrP (hok.2.1 o hoo.1) hrt
  unfold Qlr
  simp only [Bool.and_eq_true,decide_eq_true_eq]
  exact ⟨⟨⟨⟨Qo6 hb.rt _ o ho,QlK hrt hl⟩,hoo.2⟩,hcn.1⟩,hcn.2⟩
 have hp:=Qfd _ (QdR hr cut)
 have hn:=QdR hr cut
 have hnl:((Qcb p.base.ents (Qaq p.ops cut)).filter (Qhl (Qaq p.ops cut))).Nodup:=QnX hn
 have hperm:(Qg9 p cut).ents.Perm ((Qcb p.base.ents (Qaq p.ops cut)).filter (Qhl (Qaq p.ops cut))):=by
  refine (List.perm_ext_iff_of_nodup ?_ hnl).2 hp.2
  exact hp.1.imp fun {a b} hab e=>by subst e;rw [Qb5] at hab;cases hab
 exact (hperm.map _).nodup_iff.2 hn
theorem Qi5 {p:Pst} {cut:Vec} (hok:Qee p) (hI:Qbu p cut=0):Qaw (Qag p cut)=true:=by
 unfold Qag;rw [if_pos hI];exact Qc2.2 (QgP hok hI)
def Qrz:Vw:=⟨0,[],false,0⟩
def Qbc (p:Pst) (cut:Vec) (n:Int):Vw:=QaM (Qag p cut) n (Qaw (Qag p cut))
def QaA (p:Pst) (cut:Vec) (n:Int):Vw:=if Qbu p cut=0 then Qbc p cut n else Qrz
theorem QqA {p:Pst} {cut:Vec} {n:Int} (h:¬Qbu p cut=0):QaA p cut n=Qrz:=if_neg h
theorem QgA {p:Pst} {cut:Vec} {n:Int} (h:Qbu p cut=0):QaA p cut n=Qbc p cut n:=if_pos h
end Go.Vx
namespace Go.Proofs
open Go Go.Vx Go.RowKit
open Tryz
namespace Tt
theorem Qtp:Bt prog 43 [(0,18),(18,1),(19,16)] (((vc vzero)++[(.slice none 0 0:Value),(.slice none 0 0:Value) ])++[(.slice none 0 0:Value) ]++(vc vzero)):=Qcr type43 rfl rfl underlying43 (by kernel_rfl)
theorem Qnr:En prog 12:=call12
theorem QqN:Zv prog 43 (.agg (((vc vzero)++[(.slice none 0 0:Value),(.slice none 0 0:Value) ])++[(.slice none 0 0:Value) ]++(vc vzero)).toArray):=zeroValue43
end Tt
end Go.Proofs
namespace Go.Vx
theorem Qtg {l:List Opn} {o:Opn} {k:Nat} (hk:k<l.length) (h:Qay (gd l k) o=true):Qbm l o=false:=by
 unfold Qbm
 have:(l.any fun x=>Qay x o)=true:=List.any_eq_true.2 ⟨_,Qbo hk,h⟩
 rw [this];simp
theorem Qp6 {l:List Opn} {o:Opn} (h:∀ j:Nat,j<l.length->Qay (gd l j) o=false):Qbm l o=QaX o:=by
 unfold Qbm
 have:(l.any fun x=>Qay x o)=false:=by
  rw [List.any_eq_false]
  intro x hx
  obtain ⟨j,hj,rfl⟩:=Qf8 hx
  rw [h j hj];decide
 rw [this];simp
end Go.Vx
namespace Go.Vx
theorem QnO {cs:List Int} {last:Int} {I:List Int} (h:UpTo cs last I) (h0:-1<=last) (hc:∀ x∈cs,0<=x) (hn:Qc6 last cs<0):I=Qen cs:=by
 have ho:=QdO cs
 refine Qfs h.inc ho.1 fun x=>?_
 rw [h.mem,ho.2]
 rcases QfY last h0 _ hc with ⟨_,h2⟩|⟨h1,_,_⟩
 ·exact ⟨fun g=>g.1,fun g=>⟨g,h2 x g⟩⟩
 have:=hc _ h1;omega
theorem Qvb {l:List Opn} {c:Int} {o:Opn} (h1:o.cart=c) (h2:¬o.kind=4) (h3:Qbm l o=true):QrT l c o=true:=by unfold QrT;rw [QQ3 h1,QQ4 h2,h3];rfl
theorem Qtq {l:List Opn} {c n:Int} {o:Opn} (h1:o.cart=c) (h2:o.item=n) (h3:Qbm l o=true) (h4:¬o.kind=4):opP l c n o=true:=by unfold opP;rw [QQ3 h1,QQ3 h2,QQ4 h4,h3];rfl
theorem QtN {l:List Opn} {c n:Int} {o:Opn} (h3:Qbm l o=true) (h1:¬o.kind=1) (h2:¬o.kind=2):opP l c n o=false:=by
 unfold Qbm at h3
 have h4:=QbZ h3
 unfold QaX at h4
 rw [QQ4 h1,QQ4 h2] at h4
 unfold opP
 have:decide (o.kind=4)=true:=by simpa using h4
 rw [this];simp
theorem Qsq {l:List Opn} {c n:Int} {o:Opn} (h:((!decide (o.cart=c)||!decide (o.item=n))||!Qbm l o)=true):opP l c n o=false:=by
 unfold opP
 revert h
 cases decide (o.cart=c)<;>cases decide (o.item=n)<;>cases Qbm l o<;>simp
def QqB (l:List Opn) (c n:Int):Line:=⟨n,QhW l c n⟩
theorem QlG {l:List Opn} {c i:Int} {I:List Int} {o:List Line} (h:o=I.map (QqB l c)):o++[⟨i,QhW l c i⟩]=(I++[i]).map (QqB l c):=by rw [List.map_append,← h];rfl
theorem QqI {l:List Opn} {c last nx:Int} {I:List Int} {ol:List Line} {k:Nat} {ou:Bool} {tk:Int} (hE:∀ o∈l,QbL o) (hk:¬k<l.length) (hou:ou=(l.take k).any (QqP l c)) (htk:tk=tkO (l.take k) c) (hup:UpTo (QdA l c l.length) last I) (h0:-1<=last) (hnx:nx=Qd2 l c last) (hn:¬0<=nx) (hol:ol=I.map (QqB l c)):Qcd l c=⟨c,ol,ou,tk⟩:=by
 rw [List.take_of_length_le (by omega)] at hou htk
 unfold Qcd
 rw [hou,htk,hol,QnO hup h0 (fun x hx=>(Qih hE x hx).1) (by unfold Qd2 at hnx;omega)];rfl
theorem QlN {l:List Opn} {c last:Int} {I:List Int} (hE:∀ o∈l,QbL o) (hup:UpTo (QdA l c l.length) last I) (h0:-1<=last) (hn:0<=Qd2 l c last):UpTo (QdA l c l.length) (Qd2 l c last) (I++[Qd2 l c last]) :=
 Qoq hup h0 (fun x hx=>(Qih hE x hx).1) (by unfold Qd2 at hn;omega)
end Go.Vx
namespace Go.Vx
open Go.RowKit
structure Dif where
 cart:Int
 item:Int
 mark:Bool
 was:Int
 nw:Int
deriving DecidableEq
instance:Inhabited Dif:=⟨⟨0,0,false,0,0⟩⟩
def dfc (x:Dif):List Value:=[.int .u16 x.cart,.int .u16 x.item,.bool x.mark,.int .u32 x.was,.int .u32 x.nw]
theorem Qj7 (x:Dif):∀ y∈dfc x,y.oneCell'=true:=by
 intro y hy;simp only [dfc,List.mem_cons,List.not_mem_nil,or_false] at hy;rcases hy with h|h|h|h|h<;>subst h<;>rfl
theorem Qtj (a b:Dif):(decide (a.cart=b.cart)&&(decide (a.item=b.item)&&((a.mark == b.mark)&&(decide (a.was=b.was)&&(decide (a.nw=b.nw)&&true)))))=decide (a=b):=by
 cases a;cases b;simp
 rw [Bool.eq_iff_iff];simp
def Qgh (l:List Line):Prop:=l.Pairwise fun a b=>a.item<b.item
def qL (l:List Line) (n:Int):Int:=((l.find? fun x=>decide (x.item=n)).map (·.qty)).getD 0
def Qkf (c:Int) (a b:List Line) (n:Int):List Dif:=if qL a n=qL b n then [] else [⟨c,n,false,qL a n,qL b n⟩]
def QmB (a b:Vw):List Dif:=if a.out=b.out then [] else [⟨b.cart,0,true,Qfh a.out,Qfh b.out⟩]
def unI (a b:List Line):List Int:=Qen ((a++b).map (·.item))
def Qe1 (a b:Vw):List Dif:=(unI a.lines b.lines).flatMap (Qkf b.cart a.lines b.lines)++QmB a b
theorem Qs6 {l:List Line} (h:Qgh l) {x:Line} (hx:x∈l):qL l x.item=x.qty:=by
 unfold qL
 induction l with
 | nil=>cases hx
 | cons y l ih =>
  rw [List.find?_cons]
  rcases List.mem_cons.1 hx with e|e
  ·subst e;simp
  have h1:=List.pairwise_cons.1 h
  have h2:=h1.1 x e
  rw [QQ4 (by omega)]
  exact ih h1.2 e
theorem QsD {l:List Line} {n:Int} (h:∀ x∈l,x.item≠n):qL l n=0:=by
 unfold qL
 rw [List.find?_eq_none.2 fun x hx=>by simpa using h x hx];rfl
structure DifI (a b R1 R2:List Line) (I:List Int):Prop where
 ex:∃ D1 D2,a=D1++R1/\b=D2++R2/\(∀ i,i∈I↔i∈(D1++D2).map (·.item))
 lt:∀ i∈I,∀ x,x∈R1∨x∈R2->i<x.item
 asc:I.Pairwise (· < ·)
theorem Ql5 (a b:List Line):DifI a b a b []:=⟨⟨[],[],rfl,rfl,by simp⟩,by simp,List.Pairwise.nil⟩
theorem QpK {a b:List Line} {I:List Int} (h:DifI a b [] [] I):I=unI a b:=by
 obtain ⟨D1,D2,h1,h2,h3⟩:=h.ex
 rw [List.append_nil] at h1 h2
 subst h1 h2
 exact Qfs h.asc (QdO _).1 fun x=>by unfold unI;rw [h3,(QdO _).2]
theorem Qgh.app {l m:List Line} (h:Qgh (l++m)):Qgh l/\Qgh m/\∀ x∈l,∀ y∈m,x.item<y.item:=List.pairwise_append.1 h
theorem Qfm {R:List Line} (h:Qgh R) (hn:0<R.length):∀ x∈R.drop 1,(gd R 0).item<x.item:=by
 cases R with
 | nil=>simp at hn
 | cons y R=>exact (List.pairwise_cons.1 h).1
theorem Qiv {R:List Line} (hn:0<R.length):R=gd R 0 :: R.drop 1:=by cases R with|nil=>simp at hn|cons y R=>rfl
theorem Qx8 {I:List Int} {n:Int} (h:I.Pairwise (· < ·)) (hn:∀ i∈I,i<n):(I++[n]).Pairwise (· < ·):=by
 rw [List.pairwise_append];exact ⟨h,by simp,fun a ha b hb=>by simp at hb;subst hb;exact hn a ha⟩
theorem QmX {a b R1 R2:List Line} {I:List Int} (ha:Qgh a) (hb:Qgh b) (h:DifI a b R1 R2 I) (hn:0<R1.length) (hlt:∀ x∈R2,(gd R1 0).item<x.item):DifI a b (R1.drop 1) R2 (I++[(gd R1 0).item])/\qL a (gd R1 0).item=(gd R1 0).qty/\qL b (gd R1 0).item=0:=by
 obtain ⟨D1,D2,h1,h2,h3⟩:=h.ex
 have hm:gd R1 0∈R1:=Qbo hn
 have hr1:=(Qgh.app (h1 ▸ ha)).2.1
 refine ⟨⟨⟨D1++[gd R1 0],D2,?_,h2,fun i=>?_⟩,fun i hi x hx=>?_,Qx8 h.asc fun i hi=>h.lt i hi _ (.inl hm)⟩,Qs6 ha (by rw [h1];exact List.mem_append_right _ hm),QsD fun x hx=>?_⟩
 ·rw [List.append_assoc,h1];congr 1;exact Qiv hn
 ·rw [List.mem_append,h3,List.mem_singleton];simp only [List.map_append,List.mem_append,List.map_cons,List.map_nil,List.mem_singleton]
  constructor
  ·rintro ((h|h)|h)
   ·exact .inl (.inl h)
   ·exact .inr h
   exact .inl (.inr h)
  rintro ((h|h)|h)
  ·exact .inl (.inl h)
  ·exact .inr h
  exact .inl (.inr h)
 ·rcases List.mem_append.1 hi with hi|hi
  ·refine h.lt i hi x ?_
   rcases hx with hx|hx
   ·exact .inl (List.mem_of_mem_drop hx)
   exact .inr hx
  simp at hi;subst hi
  rcases hx with hx|hx
  ·exact Qfm hr1 hn x hx
  exact hlt x hx
 rw [h2] at hx
 rcases List.mem_append.1 hx with hx|hx
 ·have h4:=h.lt x.item ((h3 _).2 (List.mem_map.2 ⟨x,List.mem_append_right _ hx,rfl⟩)) _ (.inl hm)
  omega
 have:=hlt x hx;omega
theorem Qry {a b R1 R2:List Line} {I:List Int} (ha:Qgh a) (hb:Qgh b) (h:DifI a b R1 R2 I) (hn:0<R2.length) (hlt:∀ x∈R1,(gd R2 0).item<x.item):DifI a b R1 (R2.drop 1) (I++[(gd R2 0).item])/\qL a (gd R2 0).item=0/\qL b (gd R2 0).item=(gd R2 0).qty:=by
 have hs:DifI b a R2 R1 I:=by
  obtain ⟨D1,D2,h1,h2,h3⟩:=h.ex
  exact ⟨⟨D2,D1,h2,h1,fun i=>by rw [h3];simp only [List.map_append,List.mem_append];exact Or.comm⟩,fun i hi x hx=>h.lt i hi x hx.symm,h.asc⟩
 obtain ⟨h1,h2,h3⟩:=QmX hb ha hs hn hlt
 refine ⟨?_,h3,h2⟩
 obtain ⟨D1,D2,e1,e2,e3⟩:=h1.ex
 exact ⟨⟨D2,D1,e2,e1,fun i=>by rw [e3];simp only [List.map_append,List.mem_append];exact Or.comm⟩,fun i hi x hx=>h1.lt i hi x hx.symm,h1.asc⟩
theorem QrA {a b R1 R2:List Line} {I:List Int} (ha:Qgh a) (hb:Qgh b) (h:DifI a b R1 R2 I) (hn1:0<R1.length) (hn2:0<R2.length) (he:(gd R1 0).item=(gd R2 0).item):DifI a b (R1.drop 1) (R2.drop 1) (I++[(gd R1 0).item])/\qL a (gd R1 0).item=(gd R1 0).qty/\qL b (gd R1 0).item=(gd R2 0).qty:=by
 obtain ⟨D1,D2,h1,h2,h3⟩:=h.ex
 have hm:gd R1 0∈R1:=Qbo hn1
 have hm2:gd R2 0∈R2:=Qbo hn2
 have hr1:=(Qgh.app (h1 ▸ ha)).2.1
 have hr2:=(Qgh.app (h2 ▸ hb)).2.1
 refine ⟨⟨⟨D1++[gd R1 0],D2++[gd R2 0],?_,?_,fun i=>?_⟩,fun i hi x hx=>?_,Qx8 h.asc fun i hi=>h.lt i hi _ (.inl hm)⟩,Qs6 ha (by rw [h1];exact List.mem_append_right _ hm),by rw [he];exact Qs6 hb (by rw [h2];exact List.mem_append_right _ hm2)⟩
 ·rw [List.append_assoc,h1];congr 1;exact Qiv hn1
 ·rw [List.append_assoc,h2];congr 1;exact Qiv hn2
 ·rw [List.mem_append,h3,List.mem_singleton];simp only [List.map_append,List.mem_append,List.map_cons,List.map_nil,List.mem_singleton]
  constructor
  ·rintro ((h|h)|h)
   ·exact .inl (.inl h)
   ·exact .inr (.inl h)
   exact .inl (.inr h)
  rintro ((h|h)|(h|h))
  ·exact .inl (.inl h)
  ·exact .inr h
  ·exact .inl (.inr h)
  exact .inr (h.trans he.symm)
 rcases List.mem_append.1 hi with hi|hi
 ·refine h.lt i hi x ?_
  rcases hx with hx|hx
  ·exact .inl (List.mem_of_mem_drop hx)
  exact .inr (List.mem_of_mem_drop hx)
 simp at hi;subst hi
 rcases hx with hx|hx
 ·exact Qfm hr1 hn1 x hx
 rw [he];exact Qfm hr2 hn2 x hx
theorem Qip {c n was nw:Int} {a b:List Line} {I:List Int} {L out:List Dif} (h:out=L++I.flatMap (Qkf c a b)) (h1:qL a n=was) (h2:qL b n=nw) (hne:¬was=nw):out++[⟨c,n,false,was,nw⟩]=L++(I++[n]).flatMap (Qkf c a b):=by
 rw [List.flatMap_append,← List.append_assoc,← h]
 congr 1
 simp only [List.flatMap_cons,List.flatMap_nil,List.append_nil]
 unfold Qkf;rw [h1,h2,if_neg hne]
theorem QmJ {c n was nw:Int} {a b:List Line} {I:List Int} {L out:List Dif} (h:out=L++I.flatMap (Qkf c a b)) (h1:qL a n=was) (h2:qL b n=nw) (hne:was=nw):out=L++(I++[n]).flatMap (Qkf c a b):=by
 rw [List.flatMap_append,← List.append_assoc,← h]
 simp only [List.flatMap_cons,List.flatMap_nil,List.append_nil]
 unfold Qkf;rw [h1,h2,if_pos hne,List.append_nil]
theorem Qgp {R1 R2:List Line} (hr:Qgh R2) (h:R2.length=0∨(0<R1.length/\(gd R1 0).item<(gd R2 0).item)):∀ x∈R2,(gd R1 0).item<x.item:=by
 intro x hx
 rcases h with h|h
 ·rw [List.eq_nil_of_length_eq_zero h] at hx;cases hx
 have hn:0<R2.length:=List.length_pos_of_mem hx
 rw [Qiv hn] at hx
 rcases List.mem_cons.1 hx with e|e
 ·rw [e];exact h.2
 have:=Qfm hr hn x e;omega
theorem QpX {a b R1 R2:List Line} {I:List Int} (ha:Qgh a) (hb:Qgh b) (h:DifI a b R1 R2 I):Qgh R1/\Qgh R2:=by
 obtain ⟨D1,D2,h1,h2,_⟩:=h.ex
 exact ⟨(Qgh.app (h1 ▸ ha)).2.1,(Qgh.app (h2 ▸ hb)).2.1⟩
theorem Qra {a b R1 R2:List Line} {I:List Int} (h:DifI a b R1 R2 I):(∀ x∈R1,x∈a)/\∀ x∈R2,x∈b:=by
 obtain ⟨D1,D2,h1,h2,_⟩:=h.ex
 subst h1 h2
 exact ⟨fun x hx=>List.mem_append_right _ hx,fun x hx=>List.mem_append_right _ hx⟩
def QeY (TC T b:Nat) (L:List Dif):Res:=exR fun x:Option Addr × Nat=>star [blk b [(.slice x.1 L.length x.2:Value)] TC,row (.slice x.1 L.length x.2) (L.map dfc) T 5]
theorem QpD {TC T b:Nat} {L:List Dif} {w:World} {S:Nat->Prop} (h:(QeY TC T b L).holds w S) (hlt:∀ x,S x->x<w.heap.size):∃ a c,Own w S w [blk b [(.slice a L.length c:Value)] TC,row (.slice a L.length c) (L.map dfc) T 5]:=by
 obtain ⟨⟨a,c⟩,h⟩:=h
 exact ⟨a,c,Own.open h hlt⟩
theorem QqC {TC T b:Nat} {L:List Dif} {w w0:World} {M:Nat->Prop} {a:Option Addr} {c:Nat} (h:Own w0 M w [blk b [(.slice a L.length c:Value)] TC,row (.slice a L.length c) (L.map dfc) T 5]):Own w0 M w [QeY TC T b L]:=(Own.shut h).conv 0 rfl fun _ h=>⟨(a,c),h⟩
section
variable {P:Program} {ty:TypeId} {e:Operand->Value} {w:World} {K:Value->World->Prop} {w0:World} {M:Nat->Prop} {L:List Res}
theorem QpO {α:Type} {f:FuncId} {x:Operand} {xs:List Operand} {vs cs:List Value} {ats:Array TypeId} {V:α->Value} {R:Res} {R':α->Res} {Lo:α->List Res} {F:α->World->Prop} (hf:En P f) (hx:e x = .func (.func f) #[] cs.toArray) (hv:xs.map e=vs)
  (hs:Own w0 M w L) (i:Nat) (hi:L[i]?=some R)
  (hc:∀ S,R.holds w S->(∀ b,S b->b<w.heap.size)->Calls P f (vs++cs).toArray w fun r w'=>∃ x,r = .returned (V x)/\Own w S w' (R' x :: Lo x)/\F x w') (h:∀ x w',Own w0 M w' (L.set i (R' x)++Lo x)->F x w'->K (V x) w') :
  opW P (.call { callee:=.value x,args:=xs.toArray,argTypes:=ats }) ty e w K:=by
 obtain ⟨S,hR,hlt,hback⟩:=hs.lend i hi
 exact Qx4 hf hx hv ((hc S hR hlt).mono fun r w' ⟨x,hr,ho,hF⟩=>⟨V x,hr,h x w' (hback w' _ _ ho) hF⟩)
end
end Go.Vx
namespace Go.Vx
theorem QxA {n1 n2:Nat} {x y:Int} (h0:(decide (0<(n1:Int))||decide (0<(n2:Int)))=true) (h:(decide ((n2:Int)=0)||(decide (0<(n1:Int))&&decide (x<y)))=true):0<n1/\(n2=0∨(0<n1/\x<y)):=by
 simp only [Bool.or_eq_true,Bool.and_eq_true,decide_eq_true_eq] at h0 h
 rcases h with h|h
 ·exact ⟨by omega,.inl (by omega)⟩
 exact ⟨by omega,.inr ⟨by omega,h.2⟩⟩
theorem Qxt {n1 n2:Nat} {x y:Int} (hn:0<n2) (h:(decide ((n1:Int)=0)||decide (y<x))=true):n1=0∨(0<n2/\y<x):=by
 simp only [Bool.or_eq_true,decide_eq_true_eq] at h
 rcases h with h|h
 ·exact .inl (by omega)
 exact .inr ⟨hn,h⟩
theorem Qxc {n1:Nat} {x y:Int} (h:(decide (0<(n1:Int))&&decide (x<y))=false) (hn:0<n1) (hy:¬y<x):x=y:=by
 rw [QQ3 (by omega:0<(n1:Int)),Bool.true_and,decide_eq_false_iff_not] at h
 omega
end Go.Vx
namespace Go.Vx
theorem QkM {la lb R1 R2:List Line} {I:List Int} {c:Int} {L out:List Dif} (h:DifI la lb R1 R2 I) (h1:¬0<R1.length) (h2:¬0<R2.length) (ho:out=L++I.flatMap (Qkf c la lb)):out=L++(unI la lb).flatMap (Qkf c la lb):=by
 have hR1:R1=[]:=List.eq_nil_of_length_eq_zero (by omega)
 have hR2:R2=[]:=List.eq_nil_of_length_eq_zero (by omega)
 subst hR1 hR2
 rw [ho,QpK h]
theorem Qoj {va vb at_ bt:Int} {ao bo:Bool} {la lb:List Line} {L out:List Dif} (ho:out=L++(unI la lb).flatMap (Qkf vb la lb)) (h:ao=bo):out=L++Qe1 ⟨va,la,ao,at_⟩ ⟨vb,lb,bo,bt⟩:=by
 unfold Qe1 QmB;rw [ho,if_pos h,List.append_nil]
theorem QmN {va vb at_ bt:Int} {ao bo:Bool} {la lb:List Line} {L out:List Dif} (ho:out=L++(unI la lb).flatMap (Qkf vb la lb)) (h:¬ao=bo):out++[⟨vb,0,true,Qfh ao,Qfh bo⟩]=L++Qe1 ⟨va,la,ao,at_⟩ ⟨vb,lb,bo,bt⟩:=by
 unfold Qe1 QmB;rw [ho,if_neg h,List.append_assoc]
end Go.Vx
namespace Go.Proofs
open Go Go.Vx Go.RowKit
open Tryz
namespace Tt
theorem QtS:T1 prog 60:=⟨sizeOf60,isAgg60⟩
theorem QjO:TA prog 83 5:=⟨sizeOf83,isAgg83⟩
theorem QtV:Bt prog 83 [(0,1),(1,1),(2,1),(3,1),(4,1)] (dfc (⟨0,0,false,0,0⟩:Dif)):=Qcr type83 rfl rfl underlying83 (by kernel_rfl)
theorem Que:El prog 60 83 5 16:=⟨underlying60,_,_,type83,rfl,rfl,rfl,rfl,by decide⟩
theorem QrR:En prog 106:=call106
theorem Qqq:En prog 65:=call65
theorem Qd1:FA prog 127 0 0:=fun b o w=>by simp [Instr.fieldAt,Instr.sureAddr,fieldPlace,Qbk]
theorem Qgt:FA prog 127 1 1:=fun b o w=>by simp [Instr.fieldAt,Instr.sureAddr,fieldPlace,Qbk]
theorem Qj4:FA prog 83 1 1:=fun b o w=>by simp [Instr.fieldAt,Instr.sureAddr,fieldPlace,Qbk]
theorem QgB:FA prog 83 3 3:=fun b o w=>by simp [Instr.fieldAt,Instr.sureAddr,fieldPlace,Qbk]
theorem Qg7:FA prog 83 4 4:=fun b o w=>by simp [Instr.fieldAt,Instr.sureAddr,fieldPlace,Qbk]
theorem Qkx:prog.underlying 47=some (.slice 127):=underlying47
theorem Qxx:Zv prog 83 (.agg (dfc (⟨0,0,false,0,0⟩:Dif)).toArray):=zeroValue83
end Tt
end Go.Proofs
namespace Go.Vx
theorem QkQ (s:Sta) (c:Int) (r:Bool):Qgh (QaM s c r).lines:=by
 unfold QaM;split
 ·exact List.pairwise_map.2 (QdO _).1
 exact List.Pairwise.nil
theorem Qjt (l:List Int):(Qen l).length<=l.length:=by
 have h:∀ l:List Int,(l.foldl (fun m x=>if x∈m then m else m++[x]) []).length<=l.length:=by
  refine Qbe (Nat.le_refl _) fun l a ih=>?_
  rw [List.foldl_append,QQ7]
  show (if a∈_ then _ else _:List Int).length<=_
  split
  ·omega
  rw [QQ7];simp;omega
 unfold Qen;rw [Qeq];exact h l
theorem Qft (s:Sta) (c:Int) (r:Bool):(QaM s c r).lines.length<=s.ents.length:=by
 unfold QaM;split
 ·show ((Qen (QdI s c)).map _).length<=_
  rw [QQ6]
  refine Nat.le_trans (Qjt _) ?_
  unfold QdI;rw [QQ6];exact List.length_filter_le _ _
 exact Nat.zero_le _
theorem Qp2 (a b:Vw):(Qe1 a b).length<=a.lines.length+b.lines.length+1:=by
 unfold Qe1
 rw [QQ7]
 have h1:∀ l:List Int,(l.flatMap (Qkf b.cart a.lines b.lines)).length<=l.length:=by
  intro l
  induction l with
  | nil=>exact Nat.le_refl _
  | cons x l ih =>
   rw [List.flatMap_cons,QQ7,List.length_cons]
   have:(Qkf b.cart a.lines b.lines x).length<=1:=by unfold Qkf;split<;>simp
   omega
 have h2:=h1 (unI a.lines b.lines)
 have h3:=Qjt ((a.lines++b.lines).map (·.item))
 have h4:(QmB a b).length<=1:=by unfold QmB;split<;>simp
 rw [QQ6,QQ7] at h3
 unfold unI at h2 ⊢
 omega
def Qdz (p:Pst) (a b:Vec):Int:=if Qbu p a=0 then (if Qbu p b=0 then (if vle a b=true then 0 else 14) else Qbu p b) else Qbu p a
def Qkk (p:Pst) (a b:Vec) (n:Int):List Dif:=Qe1 (Qbc p a n) (Qbc p b n)
def Qde (p:Pst) (a b:Vec):List Dif:=if Qdz p a b=0 then (QaD (Qag p b)).flatMap (Qkk p a b) else []
theorem QjL {p:Pst} {a b:Vec} (h:¬Qdz p a b=0):Qde p a b=[]:=if_neg h
theorem QsX {p:Pst} {a b:Vec} (h:¬Qbu p a=0):Qdz p a b=Qbu p a:=if_neg h
theorem QsQ {p:Pst} {a b:Vec} (h1:Qbu p a=0) (h:¬Qbu p b=0):Qdz p a b=Qbu p b:=by unfold Qdz;rw [if_pos h1,if_neg h]
theorem QsC {p:Pst} {a b:Vec} (h1:Qbu p a=0) (h2:Qbu p b=0) (h:vle a b=false):Qdz p a b=14:=by unfold Qdz;rw [if_pos h1,if_pos h2,if_neg (by rw [h];decide)]
theorem QmO {p:Pst} {a b:Vec} (h1:Qbu p a=0) (h2:Qbu p b=0) (h:vle a b=true):Qdz p a b=0:=by unfold Qdz;rw [if_pos h1,if_pos h2,if_pos h]
theorem Qm7 {p:Pst} {a b:Vec} {l:List Int} {k:Nat} {out:List Dif} (h:out=(l.take k).flatMap (Qkk p a b)) (hk:k<l.length):out++Qkk p a b (gd l k)=(l.take (k+1)).flatMap (Qkk p a b):=by
 rw [Qbf hk,List.flatMap_append,← h];simp
theorem Qri {p:Pst} {a b:Vec} {k:Nat} {out:List Dif} (hI:Qdz p a b=0) (h:out=((QaD (Qag p b)).take k).flatMap (Qkk p a b)) (hk:¬k<(QaD (Qag p b)).length):Qde p a b=out:=by
 unfold Qde;rw [if_pos hI,h,QcC hk]
theorem Qji (s:Sta):(QaD s).length<=s.ticks.length:=by
 unfold QaD;split
 ·rw [QQ6];exact Nat.le_refl _
 exact Nat.zero_le _
def Qhj (v:Vw) (now idle:Int):Bool:=decide (((v.lines.length:Nat):Int)=0)||v.out||decide (now-idle<v.tick)
def abI (p:Pst) (cut:Vec) (now idle:Int):Int:=if Qbu p cut=0 then (if now<idle then 2 else 0) else Qbu p cut
def abR (p:Pst) (cut:Vec) (now idle:Int):List Int:=if abI p cut now idle=0 then (QaD (Qag p cut)).filter (fun n=>!Qhj (Qbc p cut n) now idle) else []
theorem QwL {p:Pst} {c:Vec} {n i:Int} (h:¬Qbu p c=0):abI p c n i=Qbu p c:=if_neg h
theorem Qxg {p:Pst} {c:Vec} {n i:Int} (h:Qbu p c=0) (h2:n<i):abI p c n i=2:=by unfold abI;rw [if_pos h,if_pos h2]
theorem Quo {p:Pst} {c:Vec} {n i:Int} (h:Qbu p c=0) (h2:¬n<i):abI p c n i=0:=by unfold abI;rw [if_pos h,if_neg h2]
theorem QvZ {p:Pst} {c:Vec} {n i:Int} (h:¬abI p c n i=0):abR p c n i=[]:=if_neg h
theorem QrV {p:Pst} {c:Vec} {n i:Int} (h:abI p c n i=0):abR p c n i=(QaD (Qag p c)).filter (fun m=>!Qhj (Qbc p c m) n i):=if_pos h
end Go.Vx
namespace Go.Proofs
open Go Go.Vx Go.RowKit
open Tryz
namespace Tt
theorem Qun:En prog 110:=call110
theorem Qv1:En prog 63:=call63
theorem Qxr:En prog 64:=call64
theorem QxI:En prog 67:=call67
theorem Qxd:En prog 68:=call68
theorem Qr4:prog.underlying 69=some (.slice 32):=underlying69
theorem Qx2:Zv prog 32 (.int .u16 0):=zeroValue32
theorem QxV:Zv prog 60 (.slice none 0 0):=zeroValue60
end Tt
end Go.Proofs
namespace Go.Vx
def alK:Vec:=vset vzero 0 1
def QdM:Vec:=vset vzero 0 2
def QsA:Vec:=vset (vset vzero 0 0) 1 1
def alP:Pst:=⟨⟨vzero,[],[]⟩,[QrZ],alK⟩
theorem QiS:QbH alK:=Qgz Qch _ (by decide) (by decide)
theorem Qtv:QbH QdM:=Qgz Qch _ (by decide) (by decide)
theorem QtD:QbH QsA:=Qgz (Qgz Qch _ (by decide) (by decide)) _ (by decide) (by decide)
theorem QhA:Qee alP:=⟨Qh5,fun o ho=>by simp [alP] at ho;subst ho;exact Qtu,QiS⟩
theorem QfZ:Qbu alP alK=0:=by decide +kernel
theorem QmD:Qbu alP vzero=0:=by decide +kernel
theorem Qty:Qbu alP QdM=11:=by decide +kernel
theorem Qsh:Qbu alP QsA=11:=by decide +kernel
theorem QoB:Qag alP alK=Qpu:=by unfold Qag;rw [if_pos QfZ];rfl
theorem Qvw:Qag alP vzero=szero:=by unfold Qag;rw [if_pos QmD];rfl
theorem Qov (n:Int):Qbc alP alK n=QaM Qpu n (Qaw Qpu):=by unfold Qbc;rw [QoB]
theorem QtK:QaA alP alK 3=⟨3,[(⟨4,2⟩:Line)],false,5⟩:=by rw [QgA QfZ,Qov,QxU]
theorem Qvc:Qbc alP vzero 3=⟨3,[],false,0⟩:=by
 unfold Qbc;rw [Qvw]
 have h1:Qaw szero=true:=by decide +kernel
 rw [h1]
 show QgM szero 3=_
 unfold QgM
 have h2:Qen (QdI szero 3)=[]:=by
  show Qen []=[]
  exact Qo7
 rw [h2];rfl
theorem Qle:QaD (Qag alP alK)=[3]:=by
 rw [QoB];unfold QaD;rw [if_pos (by decide +kernel)];rfl
theorem Qud:Qdz alP vzero alK=0:=by rw [QmO QmD QfZ (by decide +kernel)]
theorem Qs9:Qde alP vzero alK=[⟨3,4,false,0,2⟩]:=by
 unfold Qde
 rw [if_pos Qud,Qle]
 simp only [List.flatMap_cons,List.flatMap_nil,List.append_nil]
 unfold Qkk
 rw [Qvc,Qov,QxU]
 unfold Qe1
 have h:unI [] [(⟨4,2⟩:Line)]=[4]:=by
  show QaO _=_
  exact Qmz 4
 dsimp only
 rw [h];rfl
theorem Qup:abI alP alK 9 4=0:=by rw [Quo QfZ (by decide)]
theorem Qw1:abR alP alK 9 4=[3]:=by
 rw [QrV Qup,Qle]
 have:Qhj (Qbc alP alK 3) 9 4=false:=by rw [Qov,QxU];rfl
 simp [this]
theorem Qt1:(Qag alP alK).ents.length=1:=by rw [QoB];rfl
end Go.Vx
namespace Go.Proofs
open Go Go.Vx Go.RowKit
open Tryz
namespace Tt
theorem Qxv (a b:Dif):EqF prog 2 83 (.agg (dfc a).toArray) (.agg (dfc b).toArray) (decide (a=b)):=by
 rw [← Qtj]
 exact Qf4 (D:=1) underlying83 stoodInHeld83 (.cons (by decide) (Qbp ⟨sizeOf32,isAgg32⟩ rfl) (Qbp ⟨sizeOf32,isAgg32⟩ rfl) ((Qd4 runUnderlying32).up (by decide)) (.cons (by decide) (Qbp ⟨sizeOf32,isAgg32⟩ rfl) (Qbp ⟨sizeOf32,isAgg32⟩ rfl) ((Qd4 runUnderlying32).up (by decide)) (.cons (by decide) (Qbp ⟨sizeOf4,isAgg4⟩ rfl) (Qbp ⟨sizeOf4,isAgg4⟩ rfl) ((Qq0 runUnderlying4).up (by decide)) (.cons (by decide) (Qbp ⟨sizeOf22,isAgg22⟩ rfl) (Qbp ⟨sizeOf22,isAgg22⟩ rfl) ((Qd4 runUnderlying22).up (by decide)) (.cons (by decide) (Qbp ⟨sizeOf22,isAgg22⟩ rfl) (Qbp ⟨sizeOf22,isAgg22⟩ rfl) ((Qd4 runUnderlying22).up (by decide)) .nil)))))
theorem Qjp:Bt prog 24 [(0,1),(1,1),(2,1),(3,1),(4,1),(5,1),(6,1),(7,1),(8,1),(9,1),(10,1),(11,1),(12,1),(13,1),(14,1),(15,1)] (vc vzero):=QqU type24 rfl rfl underlying24 type22 rfl (k:=1) rfl
theorem QwO:Bt prog 96 [(0,1),(1,1)] (dc (⟨0,0⟩:Dot)):=Qcr type96 rfl rfl underlying96 (by kernel_rfl)
theorem QxC:En prog 10:=call10
theorem Qtf:En prog 15:=call15
theorem Qut:En prog 21:=call21
theorem QwW:En prog 22:=call22
theorem QxE:En prog 25:=call25
theorem QvP:Ud prog 60 (.slice 83):=runUnderlying60
end Tt
end Go.Proofs
namespace Go.Vx
def Qef (l:List Opn) (v:Vec):Bool:=QbY l&&decide (((l.length:Nat):Int)<=30)&&Qbs (Qaq l v)
def Qdy (l:List Opn) (v:Vec):List Opn:=l.filter fun o=>!QbD v o.dot
def Qf1 (l:List Opn) (v:Vec):Pst:=⟨Qdf (Qaq l v),Qdy l v,Qbw l⟩
def pzero:Pst:=⟨szero,[],vzero⟩
def Qau (l:List Opn) (v:Vec):Pst:=if Qef l v=true then Qf1 l v else pzero
theorem QgS {α:Type} (p:α->Bool):∀ (l:List α) (k:Nat),∃ m,(l.take k).filter p=(l.filter p).take m
 | [],k=>⟨0,by simp⟩
 | x :: l,0=>⟨0,by simp⟩
 | x :: l,k+1=>by
  obtain ⟨m,h⟩:=QgS p l k
  rw [List.take_succ_cons,List.filter_cons,List.filter_cons]
  split
  ·exact ⟨m+1,by rw [h,List.take_succ_cons]⟩
  exact ⟨m,h⟩
theorem QiY {l:List Opn} {v:Vec} (hu:Seq (Qaq l v)) (k:Nat):Seq (Qaq (l.take k) v):=by
 obtain ⟨m,h⟩:=QgS (fun o:Opn=>QbD v o.dot) l k
 unfold Qaq at hu ⊢
 rw [h];exact hu.take m
theorem Qod {l:List Opn} {v:Vec} {k:Nat} {s:Sta} (hu:Seq (Qaq l v)) (hs:s=Qdf (Qaq (l.take k) v)) (hk:k<l.length) (hp:QbD v (gd l k).dot=true):Qc8 s (gd l k)=0/\Qa1 s (gd l k)=Qdf (Qaq (l.take (k+1)) v):=by
 subst hs
 have h1:=QiY hu (k+1)
 have e:Qaq (l.take (k+1)) v=Qaq (l.take k) v++[gd l k]:=(Qff rfl hk hp).symm
 rw [e] at h1
 have h3:Qc8 (Qdf (Qaq (l.take k) v)) (gd l k)=0:=by
  unfold Qc8
  rw [if_pos (Qc2.2 h1.cut.1.right),QcM];exact h1.ready
 exact ⟨h3,by unfold Qa1;rw [if_pos h3,e,QdU]⟩
theorem Qss {l:List Opn} {v:Vec} {k:Nat} {s:Sta} (hu:Seq (Qaq l v)) (hs:s=Qdf (Qaq (l.take k) v)) (hk:k<=l.length):QdV s/\s.ents.length<=k/\s.ticks.length<=k:=by
 subst hs
 have h1:=QkZ (Qaq (l.take k) v)
 have h2:=Qel (l.take k) v
 rw [List.length_take] at h2
 exact ⟨(QiY hu k).ok,by omega,by omega⟩
theorem Qrd {l:List Opn} {v:Vec} {k:Nat} {o:List Opn} (h:o=Qdy (l.take k) v) (hk:k<l.length) (hp:QbD v (gd l k).dot=false):o++[gd l k]=Qdy (l.take (k+1)) v:=by
 unfold Qdy at *;rw [Qbf hk,List.filter_append,← h];simp [hp]
theorem QsU {l:List Opn} {v:Vec} {k:Nat} {o:List Opn} (h:o=Qdy (l.take k) v) (hk:k<l.length) (hp:QbD v (gd l k).dot=true):o=Qdy (l.take (k+1)) v:=by
 unfold Qdy at *;rw [Qbf hk,List.filter_append,← h];simp [hp]
theorem Qnw {l:List Opn} {v:Vec} {k:Nat} {s:Sta} (h:s=Qdf (Qaq (l.take k) v)) (hk:k<l.length) (hp:QbD v (gd l k).dot=false):s=Qdf (Qaq (l.take (k+1)) v):=by
 rw [h,← Qik rfl hk hp]
theorem Qi0 {l:List Opn} {u:Vec} {k:Nat} (hq:Seq l) (hu:u=Qbw (l.take k)) (hk:k<l.length):vset u (gd l k).dot.rep.toNat (max (vat u (gd l k).dot.rep.toNat) (gd l k).dot.seq)=Qbw (l.take (k+1)):=by
 have h1:=hq.take (k+1)
 rw [Qbf hk] at h1
 have h2:=QeN h1.ready
 have h4:=h1.cut.2.2.2.1
 have h5:¬QbD (Qbw (l.take k)) (gd l k).dot=true:=by rw [h2.2.1];decide
 rw [Qei h4] at h5
 rw [Qbf hk,Qdw,hu]
 congr 1
 omega
theorem QkA {l:List Opn} {v:Vec} (hl:∀ o∈l,QbL o) (h1:QbY l=true) (h2:Qbs (Qaq l v)=true):Seq l/\Seq (Qaq l v)/\IsClosed (Qaq l v):=by
 obtain ⟨_,_,hq⟩:=Qqd hl h1
 have hc:=(QjV fun o ho=>hl o (Qb3 ho)).1 h2
 exact ⟨hq,hq.sub (Qmb hc),hc⟩
theorem QpL {l:List Opn} {v:Vec} (h1:QbY l=true) (h2:l.length<=30) (h3:Qbs (Qaq l v)=true):Qef l v=true/\Qau l v=Qf1 l v:=by
 have:Qef l v=true:=by unfold Qef;rw [h1,h3,QQ3 (by omega)];rfl
 exact ⟨this,if_pos this⟩
theorem QmS {l:List Opn} {v:Vec} (h:(!QbY l||decide (30<((l.length:Nat):Int))||!Qbs (Qaq l v))=true):Qef l v=false/\Qau l v=pzero:=by
 have:Qef l v=false:=by
  unfold Qef
  cases h1:QbY l<;>cases h3:Qbs (Qaq l v)<;>simp [h1,h3] at h ⊢
  omega
 exact ⟨this,if_neg (by rw [this];decide)⟩
theorem QpJ {l:List Opn} {v:Vec} {k:Nat} {s:Sta} {o:List Opn} {u:Vec} (hk:¬k<l.length) (hs:s=Qdf (Qaq (l.take k) v)) (ho:o=Qdy (l.take k) v) (hu:u=Qbw (l.take k)):Qf1 l v=⟨s,o,u⟩:=by
 rw [QcC hk] at hs ho hu
 rw [hs,ho,hu];rfl
end Go.Vx
namespace Go.Vx
theorem Qwg {v:Vec} {A:List Value} {n i o:Nat} (hA:A.length=n) (h:i<16) (ho:o=n+i):(A++vc v)[o]?=some (.int .u32 (vat v i)):=by
 subst ho;rw [List.getElem?_append_right (by omega),hA,Nat.add_sub_cancel_left];exact Qiw v _ h
theorem Qtl {v:Vec} {A:List Value} {n i o:Nat} {x:Int} (hA:A.length=n) (h:i<16) (ho:o=n+i):(A++vc v).set o (.int .u32 x)=A++vc (vset v i x):=by
 subst ho;rw [List.set_append_right _ _ (by omega),hA,Nat.add_sub_cancel_left,QoR v _ h x]
theorem Qt8 {v:Vec} {A:List Value} {n i o:Nat} (hA:A.length=n) (h:i<16) (ho:o=n+i):o<(A++vc v).length:=by
 rw [QQ7,QkY];omega
end Go.Vx
namespace Go.Vx
theorem Qvl {l:List Opn} (h:QbY l=true/\l.length<=30):(!QbY l||decide (30<((l.length:Nat):Int)))=false:=by rw [h.1,QQ4 (by omega)];rfl
theorem QrF {l:List Opn} (h:¬(QbY l=true/\l.length<=30)):(!QbY l||decide (30<((l.length:Nat):Int)))=true:=by
 cases h1:QbY l with
 | false=>rfl
 | true=>rw [QQ3 (by have:¬l.length<=30:=fun e=>h ⟨h1,e⟩;omega)];rfl
theorem QqR {l:List Opn} {v:Vec} (h:¬(QbY l=true/\l.length<=30)):Qef l v=false/\Qau l v=pzero:=QmS (by rw [QrF h];rfl)
theorem QqV {l:List Opn} {v:Vec} (h:Qbs (Qaq l v)=false):Qef l v=false/\Qau l v=pzero:=QmS (by rw [h];simp)
end Go.Vx
namespace Go.Vx
theorem QpT {A B R S:List Value} (h:B.length=A.length):spl (A++R++S) 0 B=B++R++S:=by
 rw [List.append_assoc,List.append_assoc];exact QtJ h
end Go.Vx
namespace Go.Proofs
open Go Go.Vx Go.RowKit
open Tryz
namespace Tt
theorem Qwm:En prog 69:=call69
theorem Qw4:En prog 72:=call72
end Tt
end Go.Proofs
namespace Go.Vx
theorem QmT {p:Pst} (ho:OpsC p.base.known p.ops) (hb:RightC p.base):Qcy p=true:=by
 rw [QgX fun i hi=>?_]
 ·exact Qc2.2 hb
 have hm:gd p.ops i∈p.ops:=Qbo hi
 unfold Qld
 have h3:((p.ops.take i).any fun x=>decide (x.dot=(gd p.ops i).dot))=false:=by
  rw [List.any_eq_false]
  intro x hx
  obtain ⟨j,hj,rfl⟩:=List.mem_take_iff_getElem.1 hx
  have h4:=List.pairwise_iff_getElem.1 ho.nd j i (by rw [QQ6];omega) (by rw [QQ6];exact hi) (by omega)
  rw [List.getElem_map,List.getElem_map] at h4
  simpa [gd,hi] using h4
 rw [Qcc,ho.ok _ hm,ho.fr _ hm,h3];rfl
theorem Qqn {l:List Opn} {v:Vec} (hq:Seq l) (hu:Seq (Qaq l v)):OpsC (Qdf (Qaq l v)).known (Qdy l v):=by
 have hm:∀ o∈Qdy l v,o∈l/\QbD v o.dot=false:=fun o ho=>by
  have:=List.mem_filter.1 ho;exact ⟨this.1,by simpa using this.2⟩
 refine ⟨fun o ho=>(hq.dots o (hm o ho).1).2.2,fun o ho=>?_,hq.nodup.sublist (List.filter_sublist.map _)⟩
 rw [QcM]
 cases e:QbD (Qbw (Qaq l v)) o.dot with
 | false=>rfl
 | true =>
  obtain ⟨q,hq1,hq2⟩:=List.mem_map.1 ((hu.has (hq.dots o (hm o ho).1).1).1 e)
  have:=QeI hq.nodup q (Qb3 hq1) o (hm o ho).1 hq2
  subst this
  have h1:=(List.mem_filter.1 hq1).2
  rw [(hm q ho).2] at h1;cases h1
theorem QeK {l:List Opn} {v:Vec} (hq:Seq l) (hu:Seq (Qaq l v)):Qcy (Qf1 l v)=true:=QmT (Qqn hq hu) hu.right
structure PastI (l:List Opn) (v:Vec):Prop where
 ok:Qee (Qau l v)
 le:(Qau l v).base.ents.length<=400
 lt:(Qau l v).base.ticks.length<=400
 lo:(Qau l v).ops.length<=400
 eq:Qau l v=Qf1 l v
 q:Seq l
 u:Seq (Qaq l v)
 len:l.length<=30
theorem Qvv {l:List Opn} {v:Vec} (hl:∀ o∈l,QbL o) (h:Qef l v=true):PastI l v:=by
 have h0:=h
 unfold Qef at h0
 rw [Bool.and_eq_true,Bool.and_eq_true] at h0
 have h2:=QQ1 h0.1.2
 obtain ⟨hq,hu,hc⟩:=QkA hl h0.1.1 h0.2
 have he:Qau l v=Qf1 l v:=if_pos h
 have h3:=QkZ (Qaq l v)
 have h4:=Qel l v
 have h5:(Qdy l v).length<=l.length:=List.length_filter_le _ _
 refine ⟨?_,?_,?_,?_,he,hq,hu,by omega⟩
 ·rw [he]
  refine ⟨hu.ok,fun o ho=>hl o (List.mem_filter.1 ho).1,?_⟩
  show QbH (Qbw l)
  rw [← QcM];exact hq.ok.1
 ·rw [he];show (Qdf _).ents.length<=_;omega
 ·rw [he];show (Qdf _).ticks.length<=_;omega
 rw [he];show (Qdy l v).length<=_;omega
def tkv (s:List Lst) (u:List Opn) (c:Int):Int:=(QaL (Qb6 s u) c).getD 0
theorem QrQ {s:List Lst} {c:Int} (hr:QdQ s) (h0:0<=(QaL s c).getD 0):∀ u:List Opn,(∀ o∈u,0<=o.tick)->(QaL s c).getD 0<=tkv s u c/\∀ o∈u,o.cart=c->o.tick<=tkv s u c:=by
 refine Qbe (motive:=fun u=>(∀ o∈u,0<=o.tick)->(QaL s c).getD 0<=tkv s u c/\∀ o∈u,o.cart=c->o.tick<=tkv s u c) (fun _=>⟨Int.le_refl _,fun o h=>by cases h⟩) fun u x ih hx=>?_
 obtain ⟨h1,h2⟩:=ih fun o ho=>hx o (List.mem_append_left _ ho)
 have hx0:=hx x (by simp)
 have e:tkv s (u++[x]) c=if c=x.cart then max (tkv s u c) x.tick else tkv s u c:=by
  unfold tkv
  rw [Qb8,Qc9 (QcK hr u)]
  by_cases q:c=x.cart
  ·rw [if_pos q,if_pos q,← q]
   unfold tkv at h1
   cases hh:QaL (Qb6 s u) c with
   | none=>rw [hh] at h1;simp at h1 ⊢;omega
   | some t=>rfl
  rw [if_neg q,if_neg q]
 rw [e]
 refine ⟨by split<;>omega,fun o ho hc=>?_⟩
 rcases List.mem_append.1 ho with ho|ho
 ·have:=h2 o ho hc;split<;>omega
 simp at ho;subst ho;rw [if_pos hc.symm];omega
theorem QtI {s:List Lst} {c:Int} (hr:QdQ s) (h0:0<=(QaL s c).getD 0):∀ u:List Opn,(∀ o∈u,0<=o.tick)->tkv s u c=(QaL s c).getD 0∨∃ o∈u,o.cart=c/\o.tick=tkv s u c:=by
 refine Qbe (motive:=fun u=>(∀ o∈u,0<=o.tick)->tkv s u c=(QaL s c).getD 0∨∃ o∈u,o.cart=c/\o.tick=tkv s u c) (fun _=>.inl rfl) fun u x ih hx=>?_
 have ih2:=ih fun o ho=>hx o (List.mem_append_left _ ho)
 have hg:=QrQ hr h0 u fun o ho=>hx o (List.mem_append_left _ ho)
 have hx0:=hx x (by simp)
 have e:tkv s (u++[x]) c=if c=x.cart then max (tkv s u c) x.tick else tkv s u c:=by
  unfold tkv
  rw [Qb8,Qc9 (QcK hr u)]
  by_cases q:c=x.cart
  ·rw [if_pos q,if_pos q,← q]
   have h1:=hg.1
   unfold tkv at h1
   cases hh:QaL (Qb6 s u) c with
   | none=>rw [hh] at h1;simp at h1 ⊢;omega
   | some t=>rfl
  rw [if_neg q,if_neg q]
 rw [e]
 split
 ·rename_i q
  rcases Int.lt_or_le (tkv s u c) x.tick with h|h
  ·exact .inr ⟨x,by simp,q.symm,by omega⟩
  rw [Int.max_eq_left h]
  rcases ih2 with h2|⟨o,ho,h3,h4⟩
  ·exact .inl h2
  exact .inr ⟨o,List.mem_append_left _ ho,h3,h4⟩
 rcases ih2 with h2|⟨o,ho,h3,h4⟩
 ·exact .inl h2
 exact .inr ⟨o,List.mem_append_left _ ho,h3,h4⟩
theorem Qmj {p:Pst} (hok:Qee p) (n:Int):0<=(QaL p.base.ticks n).getD 0:=by
 cases h:QaL p.base.ticks n with
 | none=>exact Int.le_refl _
 | some t =>
  unfold QaL at h
  obtain ⟨x,hx,e⟩:=Option.map_eq_some_iff.1 h
  have:=(hok.1.2.2 x (List.mem_of_find?_eq_some hx)).2.1
  simp;omega
end Go.Vx
namespace Go.Proofs
open Go Go.Vx Go.RowKit
open Tryz
namespace Tt
theorem Qxp:En prog 28:=call28
theorem Qwz:Ud prog 88 (.array 2 24):=runUnderlying88
end Tt
end Go.Proofs
namespace Go.Proofs
open Go Go.Vx Go.RowKit
open Tryz
namespace Tt
theorem Qv3:En prog 129:=call129
theorem Qsd:En prog 79:=call79
theorem QwG:En prog 80:=call80
theorem Qw9:En prog 81:=call81
end Tt
end Go.Proofs
namespace Go.Vx
structure SeesL (s:Sta) (l:List Opn) (c:Int):Prop where
 ents:∀ e,e∈s.ents↔∃ o∈l,Qbm l o=true/\e=Qdh o
 nd:(s.ents.map (·.dot)).Nodup
 ln:(l.map (·.dot)).Nodup
 pos:∀ o∈l,0<=o.tick
 tick:(QaL s.ticks c).getD 0=(tmax l c).getD 0
theorem Qpx {s:Sta} {l:List Opn} {c:Int} (h:SeesL s l c):QgM s c=Qb9 l c:=by
 have he2:=h.ents
 have hitem:∀ n x,x∈Qeb s c n↔x∈(Qhm l c n l).map Qdh:=by
  intro n x
  unfold Qeb Qhm
  rw [List.mem_filter,he2,List.mem_map]
  constructor
  ·rintro ⟨⟨o,ho,hl,rfl⟩,hc⟩
   simp only [Bool.and_eq_true,Bool.not_eq_true',decide_eq_true_eq,decide_eq_false_iff_not] at hc
   exact ⟨o,List.mem_filter.2 ⟨ho,by simp only [Bool.and_eq_true,Bool.not_eq_true',decide_eq_true_eq,decide_eq_false_iff_not];exact ⟨hc.1,hl,hc.2.2,hc.2.1⟩⟩,rfl⟩
  rintro ⟨o,ho,rfl⟩
  rw [List.mem_filter] at ho
  simp only [Bool.and_eq_true,Bool.not_eq_true',decide_eq_true_eq,decide_eq_false_iff_not] at ho
  refine ⟨⟨o,ho.1,ho.2.2.1,rfl⟩,?_⟩
  simp only [Bool.and_eq_true,Bool.not_eq_true',decide_eq_true_eq,decide_eq_false_iff_not]
  exact ⟨ho.2.1,ho.2.2.2.2,ho.2.2.2.1⟩
 have hq:∀ n,Qeg (Qeb s c n)=Qu1 ((mget n (vfold l c l).items).getD tz):=by
  intro n
  rw [(QhF l c n l).1,QoO]
  refine Qit (h.nd.sublist (List.filter_sublist.map _)) ?_ (hitem n)
  rw [List.map_map]
  exact h.ln.sublist (List.filter_sublist.map _)
 have hks:Qen (QdI s c)=QaO ((vfold l c l).items.map (·.1)):=by
  refine QlD (QdO _).1 (Qet (Qme l c l)) fun n=>?_
  rw [(QdO _).2,Qfg]
  have h1:=(QhF l c n l).2
  rw [QcD,decide_eq_true_iff] at h1
  rw [h1]
  unfold QdI
  constructor
  ·intro hn
   obtain ⟨e,hm,rfl⟩:=List.mem_map.1 hn
   rw [List.mem_filter] at hm
   have:e∈Qeb s c e.item:=List.mem_filter.2 ⟨hm.1,by have:=hm.2;simp only [Bool.and_eq_true] at this ⊢;exact ⟨this.1,by simp,this.2⟩⟩
   have:=(hitem _ _).1 this
   intro g;rw [g] at this;cases this
  intro hne
  obtain ⟨o,ho⟩:=List.exists_mem_of_ne_nil _ hne
  have hm:=(hitem n (Qdh o)).2 (List.mem_map.2 ⟨o,ho,rfl⟩)
  unfold Qeb at hm
  rw [List.mem_filter] at hm
  have h2:=hm.2
  simp only [Bool.and_eq_true,decide_eq_true_eq] at h2
  exact List.mem_map.2 ⟨Qdh o,List.mem_filter.2 ⟨hm.1,by simp only [Bool.and_eq_true,decide_eq_true_eq];exact ⟨h2.1,h2.2.2⟩⟩,h2.2.1⟩
 have hout:(s.ents.any fun e=>decide (e.cart=c)&&decide (e.kind=4))=(vfold l c l).out:=by
  rw [Qos,Bool.eq_iff_iff,List.any_eq_true,List.any_eq_true]
  constructor
  ·rintro ⟨e,hm,hc⟩
   obtain ⟨o,ho,hl,rfl⟩:=(he2 e).1 hm
   simp only [Bool.and_eq_true] at hc
   exact ⟨o,ho,by simp only [Bool.and_eq_true];exact ⟨hc.1,hl,hc.2⟩⟩
  rintro ⟨o,ho,hc⟩
  simp only [Bool.and_eq_true] at hc
  exact ⟨Qdh o,(he2 _).2 ⟨o,ho,hc.2.1,rfl⟩,by simp only [Bool.and_eq_true];exact ⟨hc.1,hc.2.2⟩⟩
 unfold QgM Qb9
 rw [QtG]
 dsimp only
 rw [hks,hout,h.tick,← Qms l c h.pos]
 congr 1
 exact List.map_congr_left fun n _=>by rw [hq];rfl
theorem Qny {s:Sta} {l:List Opn} {c:Int} (h:SeesL s l c):Qcd l c=QgM s c:=by
 have he:=h.ents
 have hmem:∀ n x,x∈ofO l c n l.length↔x∈Qeb s c n:=fun n x=>by
  unfold ofO Qeb opP
  rw [List.take_length,List.mem_map,List.mem_filter,he]
  constructor
  ·rintro ⟨o,ho,rfl⟩
   obtain ⟨h1,h2⟩:=List.mem_filter.1 ho
   simp only [Bool.and_eq_true,decide_eq_true_eq] at h2
   exact ⟨⟨o,h1,h2.2.2.2,rfl⟩,by show (decide (o.cart=c)&&(decide (o.item=n)&&!decide (o.kind=4)))=true;rw [QQ3 h2.1,QQ3 h2.2.1,h2.2.2.1];rfl⟩
  rintro ⟨⟨o,h1,h2,rfl⟩,h3⟩
  have h3':(decide (o.cart=c)&&(decide (o.item=n)&&!decide (o.kind=4)))=true:=h3
  simp only [Bool.and_eq_true,decide_eq_true_eq] at h3'
  exact ⟨o,List.mem_filter.2 ⟨h1,by rw [QQ3 h3'.1,QQ3 h3'.2.1,h3'.2.2,h2];rfl⟩,rfl⟩
 have hnd:∀ n,((ofO l c n l.length).map (·.dot)).Nodup:=fun n=>by
  unfold ofO
  rw [List.take_length,List.map_map]
  exact (h.ln).sublist ((List.filter_sublist).map _)
 have hq:∀ n,QhW l c n=Qeg (Qeb s c n):=fun n=>Qit (hnd n) (h.nd.sublist (List.filter_sublist.map _)) (hmem n)
 have hI:Qen (QdA l c l.length)=Qen (QdI s c):=by
  have h1:=QdO (QdA l c l.length)
  have h2:=QdO (QdI s c)
  refine Qfs h1.1 h2.1 fun x=>?_
  rw [h1.2,h2.2]
  unfold QdA QdI QrT
  rw [List.take_length,List.mem_map,List.mem_map]
  constructor
  ·rintro ⟨o,ho,rfl⟩
   obtain ⟨g1,g2⟩:=List.mem_filter.1 ho
   simp only [Bool.and_eq_true,decide_eq_true_eq] at g2
   exact ⟨Qdh o,List.mem_filter.2 ⟨(he _).2 ⟨o,g1,g2.2.2,rfl⟩,by show (decide (o.cart=c)&&!decide (o.kind=4))=true;rw [QQ3 g2.1,g2.2.1];rfl⟩,rfl⟩
  rintro ⟨e,he2,rfl⟩
  obtain ⟨g1,g2⟩:=List.mem_filter.1 he2
  obtain ⟨o,k1,k2,rfl⟩:=(he _).1 g1
  have g2':(decide (o.cart=c)&&!decide (o.kind=4))=true:=g2
  simp only [Bool.and_eq_true,decide_eq_true_eq] at g2'
  exact ⟨o,List.mem_filter.2 ⟨k1,by rw [QQ3 g2'.1,g2'.2,k2];rfl⟩,rfl⟩
 have ho:l.any (QqP l c)=s.ents.any fun e=>decide (e.cart=c)&&decide (e.kind=4):=by
  rw [Bool.eq_iff_iff,List.any_eq_true,List.any_eq_true]
  unfold QqP
  constructor
  ·rintro ⟨o,g1,g2⟩
   simp only [Bool.and_eq_true,decide_eq_true_eq] at g2
   exact ⟨Qdh o,(he _).2 ⟨o,g1,g2.2.2,rfl⟩,by show (decide (o.cart=c)&&decide (o.kind=4))=true;rw [QQ3 g2.1,QQ3 g2.2.1];rfl⟩
  rintro ⟨e,g1,g2⟩
  obtain ⟨o,k1,k2,rfl⟩:=(he _).1 g1
  have g2':(decide (o.cart=c)&&decide (o.kind=4))=true:=g2
  simp only [Bool.and_eq_true,decide_eq_true_eq] at g2'
  exact ⟨o,k1,by rw [QQ3 g2'.1,QQ3 g2'.2,k2];rfl⟩
 have ht:tkO l c=(QaL s.ticks c).getD 0:=by unfold tkO;rw [h.tick]
 unfold Qcd QgM
 rw [hI,ho,ht]
 congr 1
 refine List.map_congr_left fun n _=>?_
 rw [hq]
theorem Qo8 {l:List Opn} {c B:Int} (hB:0<=B) (h:∀ o∈l,o.cart=c->o.tick<=B):(tmax l c).getD 0<=B:=by
 rcases Qdb l c with ⟨e,_⟩|⟨t,e,⟨o,ho,hc,ht⟩,_⟩
 ·rw [e];exact hB
 rw [e,← ht];exact h o ho hc
theorem Qj9 {l:List Opn} {c:Int} {o:Opn} (ho:o∈l) (hc:o.cart=c):o.tick<=(tmax l c).getD 0:=by
 rcases Qdb l c with ⟨e,h⟩|⟨t,e,_,h⟩
 ·exact absurd hc (h o ho)
 rw [e];exact h o ho hc
theorem Qqa {l:List Opn} {c:Int} (h:∀ o∈l,0<=o.tick):0<=(tmax l c).getD 0:=by
 rcases Qdb l c with ⟨e,_⟩|⟨t,e,⟨o,ho,_,ht⟩,_⟩
 ·rw [e];exact Int.le_refl _
 rw [e,← ht];exact h o ho
theorem Qoa {l:List Opn} {v cut:Vec} (hq:Seq l) (hu:Seq (Qaq l v)) (hle:vle (Qbw (Qaq l v)) cut=true) (o:Opn):o∈Qaq l cut↔(o∈Qaq l v∨o∈Qaq (Qdy l v) cut):=by
 unfold Qaq Qdy
 rw [List.mem_filter,List.mem_filter,List.mem_filter,List.mem_filter]
 constructor
 ·rintro ⟨h1,h2⟩
  cases h:QbD v o.dot with
  | true=>exact .inl ⟨h1,rfl⟩
  | false=>exact .inr ⟨⟨h1,rfl⟩,h2⟩
 rintro (⟨h1,h2⟩|⟨⟨h1,_⟩,h2⟩)
 ·refine ⟨h1,Qjf hle ?_⟩
  exact (hu.has (hq.dots o h1).1).2 (List.mem_map.2 ⟨o,List.mem_filter.2 ⟨h1,h2⟩,rfl⟩)
 exact ⟨h1,h2⟩
theorem Qm5 {l:List Opn} {v cut:Vec} (hq:Seq l) (hu:Seq (Qaq l v)) {o x:Opn} (ho:o∈Qaq (Qdy l v) cut) (hx:x∈Qaq l v):Qay x o=false:=by
 cases h:Qay x o with
 | false=>rfl
 | true =>
  unfold Qay at h
  simp only [Bool.and_eq_true] at h
  have hh:=h.1.2
  have h1:=List.mem_filter.1 ho
  have h2:=List.mem_filter.1 h1.1
  obtain ⟨i,hi,rfl⟩:=List.mem_iff_getElem.1 hx
  have h3:=hu.take (i+1)
  rw [Qbf hi,show gd (Qaq l v) i=(Qaq l v)[i] by simp [gd,hi]] at h3
  have h4:=h3.cut.2.2.2.2.2 o.dot (hq.dots o h2.1).1 hh
  obtain ⟨q,hq1,hq2⟩:=List.mem_map.1 h4
  have h5:=List.mem_of_mem_take hq1
  have:=QeI hq.nodup q (Qb3 h5) o h2.1 hq2
  subst this
  have h6:=(List.mem_filter.1 h5).2
  have h7:=h2.2
  rw [h6] at h7;cases h7
theorem Qmf {l:List Opn} {v cut:Vec} {n:Int} (hq:Seq l) (hu:Seq (Qaq l v)) (hok:Qee (Qf1 l v)) (hI:Qbu (Qf1 l v) cut=0):SeesL (Qg9 (Qf1 l v) cut) (Qaq l cut) n:=by
 obtain ⟨hr,_,_,hle0⟩:=Qej hI
 have hle:vle (Qbw (Qaq l v)) cut=true:=by rw [← QcM];exact hle0
 have hm:=Qoa hq hu hle
 have hpl:∀ o∈l,0<=o.tick:=fun o ho=>(hq.dots o ho).2.1.2.2.2.2.2.1.1
 have hany:∀ o,((Qaq l cut).any fun x=>Qay x o)=(((Qaq l v).any fun x=>Qay x o)||((Qaq (Qdy l v) cut).any fun x=>Qay x o)):=fun o=>by
  rw [Bool.eq_iff_iff,Bool.or_eq_true,List.any_eq_true,List.any_eq_true,List.any_eq_true]
  constructor
  ·rintro ⟨x,hx,h⟩
   exact ((hm x).1 hx).imp (fun hx=>⟨x,hx,h⟩) fun hx=>⟨x,hx,h⟩
  rintro (⟨x,hx,h⟩|⟨x,hx,h⟩)
  ·exact ⟨x,(hm x).2 (.inl hx),h⟩
  exact ⟨x,(hm x).2 (.inr hx),h⟩
 refine ⟨fun e=>?_,(QgP hok hI).nd,hq.nodup.sublist (List.filter_sublist.map _),fun o ho=>hpl o (Qb3 ho),?_⟩
 ·rw [Qg6 hr cut e]
  constructor
  ·rintro ⟨h1,h2⟩
   rcases QeM h1 with h|⟨o,ho,hl,rfl⟩
   ·obtain ⟨o,ho,hl,rfl⟩:=(hu.ents.2 e).1 h
    refine ⟨o,(hm o).2 (.inl ho),?_,rfl⟩
    unfold Qbm at hl ⊢
    rw [Bool.and_eq_true] at hl ⊢
    refine ⟨hl.1,?_⟩
    have h3:=hl.2
    rw [Qib] at h2
    rw [hany]
    cases ha:(Qaq l v).any fun x=>Qay x o with
    | true=>rw [ha] at h3;cases h3
    | false=>rw [Bool.false_or];exact h2
   refine ⟨o,(hm o).2 (.inr ho),?_,rfl⟩
   unfold Qbm
   rw [hl,hany,Bool.true_and]
   have h3:((Qaq l v).any fun x=>Qay x o)=false:=by
    rw [List.any_eq_false];intro x hx;rw [Qm5 hq hu ho hx];decide
   rw [h3,Bool.false_or];rw [Qib] at h2;exact h2
  rintro ⟨o,ho,hl,rfl⟩
  unfold Qbm at hl
  rw [Bool.and_eq_true,hany,Bool.not_eq_true',Bool.or_eq_false_iff] at hl
  refine ⟨?_,by rw [Qib];show (!((Qaq (Qdy l v) cut).any fun x=>Qay x o))=true;rw [hl.2.2];rfl⟩
  unfold Qcb
  rw [List.mem_append]
  rcases (hm o).1 ho with h|h
  ·refine .inl ((hu.ents.2 _).2 ⟨o,h,?_,rfl⟩)
   unfold Qbm;rw [hl.1,hl.2.1];rfl
  exact .inr (List.mem_map.2 ⟨o,List.mem_filter.2 ⟨h,hl.1⟩,rfl⟩)
 show tkv (Qf1 l v).base.ticks (Qaq (Qdy l v) cut) n=_
 have hbt:(QaL (Qf1 l v).base.ticks n).getD 0=(tmax (Qaq l v) n).getD 0:=by show (QaL (Qdf _).ticks n).getD 0=_;rw [(Qc1 _).2]
 have hrt:QdQ (Qf1 l v).base.ticks:=(Qc1 _).1
 have h0:=Qmj hok n
 have hpo:∀ o∈Qaq (Qdy l v) cut,0<=o.tick:=fun o ho=>hpl o (Qb3 ((hm o).2 (.inr ho)))
 have hge:=QrQ hrt h0 (Qaq (Qdy l v) cut) hpo
 have hpb:∀ o∈Qaq l cut,0<=o.tick:=fun o ho=>hpl o (Qb3 ho)
 refine Int.le_antisymm ?_ ?_
 ·rcases QtI hrt h0 (Qaq (Qdy l v) cut) hpo with e|⟨o,ho,hc,e⟩
  ·rw [e,hbt]
   exact Qo8 (Qqa hpb) fun o ho hc=>Qj9 ((hm o).2 (.inl ho)) hc
  rw [← e];exact Qj9 ((hm o).2 (.inr ho)) hc
 refine Qo8 (by omega) fun o ho hc=>?_
 rcases (hm o).1 ho with h|h
 ·have h1:=Qj9 h hc
  rw [← hbt] at h1
  omega
 exact hge.2 o h hc
theorem QmP {l:List Opn} {v cut:Vec} {n:Int} (h:PastI l v) (hI:Qbu (Qau l v) cut=0):QaA (Qau l v) cut n=Qb9 (Qaq l cut) n/\Qcd (Qaq l cut) n=Qb9 (Qaq l cut) n:=by
 have hok:=h.ok
 rw [h.eq] at hI hok ⊢
 have hs:=Qmf (n:=n) h.q h.u hok hI
 have e1:QgM (Qg9 (Qf1 l v) cut) n=Qb9 (Qaq l cut) n:=Qpx hs
 refine ⟨?_,by rw [Qny hs,e1]⟩
 rw [QgA hI]
 unfold Qbc QaM
 rw [if_pos (Qi5 hok hI)]
 unfold Qag
 rw [if_pos hI];exact e1
theorem QvD {l:List Opn} {v cut:Vec} (h:PastI l v) (hc:QaQ cut 16=false):Qbu (Qau l v) cut=13:=by
 rw [h.eq];unfold Qbu;rw [QeK h.q h.u,hc];rfl
theorem QwI {l:List Opn} {v cut:Vec} (h:PastI l v) (hc:QaQ cut 16=true) (hk:vle cut (Qau l v).known=false):Qbu (Qau l v) cut=11:=by
 rw [h.eq] at hk ⊢;unfold Qbu;rw [QeK h.q h.u,hc,hk];rfl
theorem Quz {l:List Opn} {v cut:Vec} (h:PastI l v) (hc:QaQ cut 16=true) (hk:vle cut (Qau l v).known=true) (hb:vle (Qau l v).base.known cut=false):Qbu (Qau l v) cut=12:=by
 rw [h.eq] at hk hb ⊢;unfold Qbu;rw [QeK h.q h.u,hc,hk,hb];rfl
theorem Qxy {l:List Opn} {v cut:Vec} (h:PastI l v) (hc:QaQ cut 16=true) (hk:vle cut (Qau l v).known=true) (hb:vle (Qau l v).base.known cut=true):Qbu (Qau l v) cut=0:=by
 rw [h.eq] at hk hb ⊢;unfold Qbu;rw [QeK h.q h.u,hc,hk,hb];rfl
end Go.Vx
namespace Go.Proofs
open Go Go.Vx Go.RowKit
open Tryz
namespace Tt
theorem QxD:En prog 36:=call36
theorem Qxh:En prog 37:=call37
end Tt
end Go.Proofs
namespace Go.Proofs
open Go Go.Vx Go.RowKit
open Tryz
namespace Tt
theorem QeU (w:World) (x:Int):Calls prog 146 #[.int .u8 x] w (fun e w'=>e = .returned (.bool false)/\Own w no w' []):=by
 refine Qah (n:=6) func146 rfl ntmps146 rfl ?_
 have Y:=Own.start w
 refine Qae (Qab (Qaa (Qam (.bool false) (Qad (Qae (Qab (Qaa (Qaf (.int .u8 x) (Qaa (Qaf (.int .u8 x) (Qaa (Qck rfl rfl (Qaa (Qam (.bool (!decide (x=x))) (Qad (Qav ?_))))))))))))))))
 refine ⟨_,Qan (V:=.bool (!decide (x=x))) results146 rfl,(Zr Y ?_)⟩
 simp
theorem QdG (w:World) (x y:Int):Calls prog 94 #[.int .u8 x,.int .u8 y] w (fun e w'=>e = .returned (.int .i64 (QaR x y))/\Own w no w' []):=by
 refine Qah (n:=20) func94 rfl ntmps94 rfl ?_
 have Y:=Own.start w
 refine Qae (Qab (Qaa (Qam (I6 0) (Qad (Qae (Qab (Qaa (Qaf (.int .u8 x) (Qaa (Qas (vs:=[.int .u8 x]) (V:=.bool false) Qr9 rfl rfl ?hc Y fun w1 Y=>?_))))))))))
 case hc=>exact (QeU _ x)
 refine Qaa (Qam (.bool false) (Qad (Qae (Qab (Qaa (Qaf (.int .u8 y) (Qaa (Qas (vs:=[.int .u8 y]) (V:=.bool false) Qr9 rfl rfl ?hc Y fun w2 Y=>?_))))))))
 case hc=>exact (QeU _ y)
 refine Qaa (Qam (.bool false) (Qad (Qae (Qae (Qab (Qaa (Qaf (.bool false) (Qad (Qce rfl ?_)))))))))
 refine Qap (Qae (Qae (Qab (Qaa (Qaf (.bool false) (Qad (Qce rfl ?_)))))))
 refine Qap (Qae (Qae (Qab (Qaa (Qaf (.int .u8 x) (Qaa (Qaf (.int .u8 y) (Qaa (Qa0 rfl rfl (Qad (Qak (t:=decide (x<y)) rfl (fun c3=>?_) (fun c3=>?_))))))))))))
 ·
  replace c3:=QQ1 c3
  refine Qae (Qab (Qaa (Qam (I6 (-1)) (Qad (Qav ?_)))))
  refine ⟨_,Qan (V:=I6 (-1)) results94 rfl,(Zr Y ?_)⟩
  rw [Qdd,if_pos c3]
 replace c3:=QQ2 c3
 refine Qap (Qae (Qae (Qab (Qaa (Qaf (.int .u8 x) (Qaa (Qaf (.int .u8 y) (Qaa (Qca rfl rfl (Qad (Qak (t:=decide (y<x)) rfl (fun c4=>?_) (fun c4=>?_))))))))))))
 ·
  replace c4:=QQ1 c4
  refine Qae (Qab (Qaa (Qam (I6 1) (Qad (Qav ?_)))))
  refine ⟨_,Qan (V:=I6 1) results94 rfl,(Zr Y ?_)⟩
  rw [Qdd,if_neg c3,if_pos c4]
 replace c4:=QQ2 c4
 refine Qap (Qae (Qab (Qaa (Qam (I6 0) (Qad (Qav ?_))))))
 refine ⟨_,Qan (V:=I6 0) results94 rfl,(Zr Y ?_)⟩
 rw [Qdd,if_neg c3,if_neg c4]
theorem QeB (w:World) (x:Int):Calls prog 127 #[.int .u16 x] w (fun e w'=>e = .returned (.bool false)/\Own w no w' []):=by
 refine Qah (n:=6) func127 rfl ntmps127 rfl ?_
 have Y:=Own.start w
 refine Qae (Qab (Qaa (Qam (.bool false) (Qad (Qae (Qab (Qaa (Qaf (I7 x) (Qaa (Qaf (I7 x) (Qaa (Qck rfl rfl (Qaa (Qam (.bool (!decide (x=x))) (Qad (Qav ?_))))))))))))))))
 refine ⟨_,Qan (V:=.bool (!decide (x=x))) results127 rfl,(Zr Y ?_)⟩
 simp
theorem Qdm (w:World) (x y:Int):Calls prog 77 #[.int .u16 x,.int .u16 y] w (fun e w'=>e = .returned (.int .i64 (QaR x y))/\Own w no w' []):=by
 refine Qah (n:=20) func77 rfl ntmps77 rfl ?_
 have Y:=Own.start w
 refine Qae (Qab (Qaa (Qam (I6 0) (Qad (Qae (Qab (Qaa (Qaf (I7 x) (Qaa (Qas (vs:=[I7 x]) (V:=.bool false) QnS rfl rfl ?hc Y fun w1 Y=>?_))))))))))
 case hc=>exact (QeB _ x)
 refine Qaa (Qam (.bool false) (Qad (Qae (Qab (Qaa (Qaf (I7 y) (Qaa (Qas (vs:=[I7 y]) (V:=.bool false) QnS rfl rfl ?hc Y fun w2 Y=>?_))))))))
 case hc=>exact (QeB _ y)
 refine Qaa (Qam (.bool false) (Qad (Qae (Qae (Qab (Qaa (Qaf (.bool false) (Qad (Qce rfl ?_)))))))))
 refine Qap (Qae (Qae (Qab (Qaa (Qaf (.bool false) (Qad (Qce rfl ?_)))))))
 refine Qap (Qae (Qae (Qab (Qaa (Qaf (I7 x) (Qaa (Qaf (I7 y) (Qaa (Qa0 rfl rfl (Qad (Qak (t:=decide (x<y)) rfl (fun c3=>?_) (fun c3=>?_))))))))))))
 ·
  replace c3:=QQ1 c3
  refine Qae (Qab (Qaa (Qam (I6 (-1)) (Qad (Qav ?_)))))
  refine ⟨_,Qan (V:=I6 (-1)) results77 rfl,(Zr Y ?_)⟩
  rw [Qdd,if_pos c3]
 replace c3:=QQ2 c3
 refine Qap (Qae (Qae (Qab (Qaa (Qaf (I7 x) (Qaa (Qaf (I7 y) (Qaa (Qca rfl rfl (Qad (Qak (t:=decide (y<x)) rfl (fun c4=>?_) (fun c4=>?_))))))))))))
 ·
  replace c4:=QQ1 c4
  refine Qae (Qab (Qaa (Qam (I6 1) (Qad (Qav ?_)))))
  refine ⟨_,Qan (V:=I6 1) results77 rfl,(Zr Y ?_)⟩
  rw [Qdd,if_neg c3,if_pos c4]
 replace c4:=QQ2 c4
 refine Qap (Qae (Qab (Qaa (Qam (I6 0) (Qad (Qav ?_))))))
 refine ⟨_,Qan (V:=I6 0) results77 rfl,(Zr Y ?_)⟩
 rw [Qdd,if_neg c3,if_neg c4]
theorem Qep (w:World) (x:Int):Calls prog 147 #[.int .u32 x] w (fun e w'=>e = .returned (.bool false)/\Own w no w' []):=by
 refine Qah (n:=6) func147 rfl ntmps147 rfl ?_
 have Y:=Own.start w
 refine Qae (Qab (Qaa (Qam (.bool false) (Qad (Qae (Qab (Qaa (Qaf (.int .u32 x) (Qaa (Qaf (.int .u32 x) (Qaa (Qck rfl rfl (Qaa (Qam (.bool (!decide (x=x))) (Qad (Qav ?_))))))))))))))))
 refine ⟨_,Qan (V:=.bool (!decide (x=x))) results147 rfl,(Zr Y ?_)⟩
 simp
theorem Qdk (w:World) (x y:Int):Calls prog 95 #[.int .u32 x,.int .u32 y] w (fun e w'=>e = .returned (.int .i64 (QaR x y))/\Own w no w' []):=by
 refine Qah (n:=20) func95 rfl ntmps95 rfl ?_
 have Y:=Own.start w
 refine Qae (Qab (Qaa (Qam (I6 0) (Qad (Qae (Qab (Qaa (Qaf (.int .u32 x) (Qaa (Qas (vs:=[.int .u32 x]) (V:=.bool false) QrG rfl rfl ?hc Y fun w1 Y=>?_))))))))))
 case hc=>exact (Qep _ x)
 refine Qaa (Qam (.bool false) (Qad (Qae (Qab (Qaa (Qaf (.int .u32 y) (Qaa (Qas (vs:=[.int .u32 y]) (V:=.bool false) QrG rfl rfl ?hc Y fun w2 Y=>?_))))))))
 case hc=>exact (Qep _ y)
 refine Qaa (Qam (.bool false) (Qad (Qae (Qae (Qab (Qaa (Qaf (.bool false) (Qad (Qce rfl ?_)))))))))
 refine Qap (Qae (Qae (Qab (Qaa (Qaf (.bool false) (Qad (Qce rfl ?_)))))))
 refine Qap (Qae (Qae (Qab (Qaa (Qaf (.int .u32 x) (Qaa (Qaf (.int .u32 y) (Qaa (Qa0 rfl rfl (Qad (Qak (t:=decide (x<y)) rfl (fun c3=>?_) (fun c3=>?_))))))))))))
 ·
  replace c3:=QQ1 c3
  refine Qae (Qab (Qaa (Qam (I6 (-1)) (Qad (Qav ?_)))))
  refine ⟨_,Qan (V:=I6 (-1)) results95 rfl,(Zr Y ?_)⟩
  rw [Qdd,if_pos c3]
 replace c3:=QQ2 c3
 refine Qap (Qae (Qae (Qab (Qaa (Qaf (.int .u32 x) (Qaa (Qaf (.int .u32 y) (Qaa (Qca rfl rfl (Qad (Qak (t:=decide (y<x)) rfl (fun c4=>?_) (fun c4=>?_))))))))))))
 ·
  replace c4:=QQ1 c4
  refine Qae (Qab (Qaa (Qam (I6 1) (Qad (Qav ?_)))))
  refine ⟨_,Qan (V:=I6 1) results95 rfl,(Zr Y ?_)⟩
  rw [Qdd,if_neg c3,if_pos c4]
 replace c4:=QQ2 c4
 refine Qap (Qae (Qab (Qaa (Qam (I6 0) (Qad (Qav ?_))))))
 refine ⟨_,Qan (V:=I6 0) results95 rfl,(Zr Y ?_)⟩
 rw [Qdd,if_neg c3,if_neg c4]
theorem QeA (w:World) (x:Int):Calls prog 171 #[.int .u64 x] w (fun e w'=>e = .returned (.bool false)/\Own w no w' []):=by
 refine Qah (n:=6) func171 rfl ntmps171 rfl ?_
 have Y:=Own.start w
 refine Qae (Qab (Qaa (Qam (.bool false) (Qad (Qae (Qab (Qaa (Qaf (.int .u64 x) (Qaa (Qaf (.int .u64 x) (Qaa (Qck rfl rfl (Qaa (Qam (.bool (!decide (x=x))) (Qad (Qav ?_))))))))))))))))
 refine ⟨_,Qan (V:=.bool (!decide (x=x))) results171 rfl,(Zr Y ?_)⟩
 simp
theorem Qfq (w:World) (x y:Int):Calls prog 158 #[.int .u64 x,.int .u64 y] w (fun e w'=>e = .returned (.int .i64 (QaR x y))/\Own w no w' []):=by
 refine Qah (n:=20) func158 rfl ntmps158 rfl ?_
 have Y:=Own.start w
 refine Qae (Qab (Qaa (Qam (I6 0) (Qad (Qae (Qab (Qaa (Qaf (.int .u64 x) (Qaa (Qas (vs:=[.int .u64 x]) (V:=.bool false) Qrw rfl rfl ?hc Y fun w1 Y=>?_))))))))))
 case hc=>exact (QeA _ x)
 refine Qaa (Qam (.bool false) (Qad (Qae (Qab (Qaa (Qaf (.int .u64 y) (Qaa (Qas (vs:=[.int .u64 y]) (V:=.bool false) Qrw rfl rfl ?hc Y fun w2 Y=>?_))))))))
 case hc=>exact (QeA _ y)
 refine Qaa (Qam (.bool false) (Qad (Qae (Qae (Qab (Qaa (Qaf (.bool false) (Qad (Qce rfl ?_)))))))))
 refine Qap (Qae (Qae (Qab (Qaa (Qaf (.bool false) (Qad (Qce rfl ?_)))))))
 refine Qap (Qae (Qae (Qab (Qaa (Qaf (.int .u64 x) (Qaa (Qaf (.int .u64 y) (Qaa (Qa0 rfl rfl (Qad (Qak (t:=decide (x<y)) rfl (fun c3=>?_) (fun c3=>?_))))))))))))
 ·
  replace c3:=QQ1 c3
  refine Qae (Qab (Qaa (Qam (I6 (-1)) (Qad (Qav ?_)))))
  refine ⟨_,Qan (V:=I6 (-1)) results158 rfl,(Zr Y ?_)⟩
  rw [Qdd,if_pos c3]
 replace c3:=QQ2 c3
 refine Qap (Qae (Qae (Qab (Qaa (Qaf (.int .u64 x) (Qaa (Qaf (.int .u64 y) (Qaa (Qca rfl rfl (Qad (Qak (t:=decide (y<x)) rfl (fun c4=>?_) (fun c4=>?_))))))))))))
 ·
  replace c4:=QQ1 c4
  refine Qae (Qab (Qaa (Qam (I6 1) (Qad (Qav ?_)))))
  refine ⟨_,Qan (V:=I6 1) results158 rfl,(Zr Y ?_)⟩
  rw [Qdd,if_neg c3,if_pos c4]
 replace c4:=QQ2 c4
 refine Qap (Qae (Qab (Qaa (Qam (I6 0) (Qad (Qav ?_))))))
 refine ⟨_,Qan (V:=I6 0) results158 rfl,(Zr Y ?_)⟩
 rw [Qdd,if_neg c3,if_neg c4]
theorem Qpr (w:World) (a:Option Addr) (c:Nat) (l:List Int) (hr:Rd w (.slice a l.length c) 1 (l.map (ic .i64))):Calls prog 93 #[.slice a l.length c] w (fun e w'=>e = .returned (.int .i64 (orI l))/\Own w no w' []):=by
 refine Qah (n:=18) func93 rfl ntmps93 rfl ?_
 have Y:=Own.start w
 have hn:=hr.sml
 refine Qae (Qab (Qaa (Qam (I6 0) (Qad (Qae (Qab (Qaa (Qam (I6 0) (Qad (Qae (Qae (Qab (Qaa (Qaf (.slice a l.length c) (Qaa (Qa5 (n:=l.length) Qr8 (Rd.own' hr Y) (by simp) rfl (Qaa (Qaf (I6 0) (Qad (Qal (QaE (fun J μ J' w'=>∃ (Jo:Env) (k:Nat),J'=upd (mix ([2,5]++sq 8 9) Jo J) 8 (I6 (k:Int))/\(k<=l.length)/\(∀ j:Nat,j<k->gd l j=0)/\μ=l.length-k/\Own w no w' []) ?_ ?_)))))))))))))))))))))
 ·exact ⟨_,_,0,Qai (Qao (ds:=([2,5]++sq 8 9)) (Agr.refl _ _)) rfl,(by omega),(fun j hj=>absurd hj (Nat.not_lt_zero j)),rfl,Y⟩
 rintro μ J' w1 ⟨Jo,k,rfl,hk,h0,rfl,Y⟩
 refine Qae (Qab (Qaa (Qa0 rfl rfl (Qad (Qae (Qak (t:=decide ((k:Int)<((l.length:Nat):Int))) rfl (fun c2=>?_) (fun c2=>?_)))))))
 ·
  replace c2:=QQ1 c2
  refine Qap (Qae (Qal (Qae (Qab (Qaa (Qax Qr8 QtT.1 (Rd.own' hr Y) rfl rfl (by omega) (by rw [QQ6];omega) (Qaa (QaV (j:=0) (V:=I6 (gd l k)) k QtT (Rd.own' hr Y) (Qa4 (by omega)) rfl rfl (by omega) (Qaa (Qam (I6 (gd l k)) (Qad (Qae (Qab (Qaa (Qaf (I6 (gd l k)) (Qaa (Qaf (I6 0) (Qaa (Qck rfl rfl (Qad (Qak (t:=!decide (gd l k=0)) rfl (fun c3=>?_) (fun c3=>?_))))))))))))))))))))))
  ·
   replace c3:=QbE c3
   replace c3:=QQ2 c3
   refine Qae (Qab (Qaa (Qaf (I6 (gd l k)) (Qaa (Qam (I6 (gd l k)) (Qad (Qav ?_)))))))
   refine ⟨_,Qan (V:=I6 (gd l k)) results93 rfl,(Zr Y ?_)⟩
   exact congrArg (Value.int IntKind.i64) (QsR (by omega) h0 c3).symm
  replace c3:=Qbd c3
  replace c3:=QQ1 c3
  refine Qap (Qab (Qaa (QaB (a:=(k:Int)) (b:=1) (c:=(k:Int)+1) rfl rfl (Qbx (by omega) (by omega)) (Qaa (Qaf (I6 ((k:Int)+1)) (Qad ?_))))))
  refine ⟨_,?_,_,k+1,Qai (Qao (ds:=([2,5]++sq 8 9)) (by repeat (first|exact Agr.refl _ _|refine Agr.upd ?_ rfl|refine Agr.mix ?_ rfl))) rfl,(by omega),(Qs2 h0 c3),rfl,Y.take 0⟩
  omega
 replace c2:=QQ2 c2
 refine QaI (Qae (Qab (Qaa (Qaf (I6 0) (Qaa (Qam (I6 0) (Qad (Qav ?_))))))))
 refine ⟨_,Qan (V:=I6 0) results93 rfl,(Zr Y ?_)⟩
 exact congrArg (Value.int IntKind.i64) (QuW fun j hj=>h0 j (by omega)).symm
end Tt
end Go.Proofs
namespace Go.Proofs
open Go Go.Vx Go.RowKit
open Tryz
namespace Tt
theorem Qs3 (w:World) (d:Dot):Calls prog 86 #[.agg (dc d).toArray] w (fun e w'=>e = .returned (.bool (QbQ d))/\Own w no w' []):=by
 refine Qah (n:=16) func86 rfl ntmps86 rfl ?_
 have Y:=Own.start w
 refine Qae (Qab (Qaa (QaY (V:=.agg (dc d).toArray) (cs:=dc d) rfl rfl Y fun b1 w2 Y=>(Qaa (Qam (.bool false) (Qad (Qae (Qbv (so 3 13++[some 2]) [] [0,1,3,7,15,31,63,127,255,511,1023,2047,4095,8191] [pv (Pq b1 (0+0)),pv (.int .u8 d.rep),pv (.bool (decide (d.rep<16))),pv (.bool (decide (d.rep<16))),pg ((decide (d.rep<16)) == true) (Pq b1 (0+1)),pg ((decide (d.rep<16)) == true) (.int .u32 d.seq),pg ((decide (d.rep<16)) == true) (.bool (decide (1<=d.seq))),pv (.bool ((decide (d.rep<16))&&(decide (1<=d.seq)))),pv (.bool ((decide (d.rep<16))&&(decide (1<=d.seq)))),pg (((decide (d.rep<16))&&(decide (1<=d.seq))) == true) (Pq b1 (0+1)),pg (((decide (d.rep<16))&&(decide (1<=d.seq))) == true) (.int .u32 d.seq),pg (((decide (d.rep<16))&&(decide (1<=d.seq))) == true) (.bool (decide (d.seq<=1048576))),pv (.bool (((decide (d.rep<16))&&(decide (1<=d.seq)))&&(decide (d.seq<=1048576)))),pv (.bool (((decide (d.rep<16))&&(decide (1<=d.seq)))&&(decide (d.seq<=1048576))))] (fun _ _=>_) [13] (by kernel_rfl) Y ⟨?_,?_,?_,?_,?_,?_,?_,?_,?_,?_,?_,?_,?_,?_,trivial⟩ ?_))))))))
 ·exact oi [] fun Y=>Qac QbJ rfl (Zz Y)
 ·exact oi [0] fun Y=>QaN (.int .u8 d.rep) QcI Y 0 (Zz Y)
 ·exact oi [1] fun Y=>Qa0 rfl rfl (Zz Y)
 ·exact oi [2] fun Y=>Qaf (.bool (decide (d.rep<16))) (Zz Y)
 ·exact ogi [3] fun hG Y=>Qac QbN rfl (Zz Y)
 ·exact oyi [3,4] [4] fun hG Y=>QaN (.int .u32 d.seq) QaU Y 0 (Zz Y)
 ·exact oyi [3,5] [5] fun hG Y=>QcZ rfl rfl (Zz Y)
 ·exact oi [3,6] fun Y=>Qbg (h':=decide (1<=d.seq)) rfl rfl rfl (Zz Y)
 ·exact oi [7] fun Y=>Qaf (.bool ((decide (d.rep<16))&&(decide (1<=d.seq)))) (Zz Y)
 ·exact ogi [8] fun hG Y=>Qac QbN rfl (Zz Y)
 ·exact oyi [8,9] [9] fun hG Y=>QaN (.int .u32 d.seq) QaU Y 0 (Zz Y)
 ·exact oyi [8,10] [10] fun hG Y=>Qew rfl rfl (Zz Y)
 ·exact oi [8,11] fun Y=>Qbg (h':=decide (d.seq<=1048576)) rfl rfl rfl (Zz Y)
 ·exact oi [12] fun Y=>Qam (.bool (((decide (d.rep<16))&&(decide (1<=d.seq)))&&(decide (d.seq<=1048576)))) (Zz Y)
 rintro J1 w3 J2 hJ Y
 replace hJ:J2=upd (mix (sq 3 13++[2]) J1 _) 2 (.bool (((decide (d.rep<16))&&(decide (1<=d.seq)))&&(decide (d.seq<=1048576)))):=hJ
 subst hJ
 refine Qav ?_
 refine ⟨_,Qan (V:=.bool (((decide (d.rep<16))&&(decide (1<=d.seq)))&&(decide (d.seq<=1048576)))) results86 rfl,(Zr Y ?_)⟩
 rfl
theorem QjK (w:World) (d:Dot):Calls prog 112 #[.agg (dc d).toArray] w (fun e w'=>e = .returned (.bool (QbQ d))/\Own w no w' []):=by
 refine Qah (n:=16) func112 rfl ntmps112 rfl ?_
 have Y:=Own.start w
 refine Qae (Qab (Qaa (QaY (V:=.agg (dc d).toArray) (cs:=dc d) rfl rfl Y fun b1 w2 Y=>(Qaa (Qam (.bool false) (Qad (Qae (Qbv (so 3 13++[some 2]) [] [0,1,3,7,15,31,63,127,255,511,1023,2047,4095,8191] [pv (Pq b1 (0+0)),pv (.int .u8 d.rep),pv (.bool (decide (d.rep<16))),pv (.bool (decide (d.rep<16))),pg ((decide (d.rep<16)) == true) (Pq b1 (0+1)),pg ((decide (d.rep<16)) == true) (.int .u32 d.seq),pg ((decide (d.rep<16)) == true) (.bool (decide (1<=d.seq))),pv (.bool ((decide (d.rep<16))&&(decide (1<=d.seq)))),pv (.bool ((decide (d.rep<16))&&(decide (1<=d.seq)))),pg (((decide (d.rep<16))&&(decide (1<=d.seq))) == true) (Pq b1 (0+1)),pg (((decide (d.rep<16))&&(decide (1<=d.seq))) == true) (.int .u32 d.seq),pg (((decide (d.rep<16))&&(decide (1<=d.seq))) == true) (.bool (decide (d.seq<=1048576))),pv (.bool (((decide (d.rep<16))&&(decide (1<=d.seq)))&&(decide (d.seq<=1048576)))),pv (.bool (((decide (d.rep<16))&&(decide (1<=d.seq)))&&(decide (d.seq<=1048576))))] (fun _ _=>_) [13] (by kernel_rfl) Y ⟨?_,?_,?_,?_,?_,?_,?_,?_,?_,?_,?_,?_,?_,?_,trivial⟩ ?_))))))))
 ·exact oi [] fun Y=>Qac QbJ rfl (Zz Y)
 ·exact oi [0] fun Y=>QaN (.int .u8 d.rep) QcI Y 0 (Zz Y)
 ·exact oi [1] fun Y=>Qa0 rfl rfl (Zz Y)
 ·exact oi [2] fun Y=>Qaf (.bool (decide (d.rep<16))) (Zz Y)
 ·exact ogi [3] fun hG Y=>Qac QbN rfl (Zz Y)
 ·exact oyi [3,4] [4] fun hG Y=>QaN (.int .u32 d.seq) QaU Y 0 (Zz Y)
 ·exact oyi [3,5] [5] fun hG Y=>QcZ rfl rfl (Zz Y)
 ·exact oi [3,6] fun Y=>Qbg (h':=decide (1<=d.seq)) rfl rfl rfl (Zz Y)
 ·exact oi [7] fun Y=>Qaf (.bool ((decide (d.rep<16))&&(decide (1<=d.seq)))) (Zz Y)
 ·exact ogi [8] fun hG Y=>Qac QbN rfl (Zz Y)
 ·exact oyi [8,9] [9] fun hG Y=>QaN (.int .u32 d.seq) QaU Y 0 (Zz Y)
 ·exact oyi [8,10] [10] fun hG Y=>Qew rfl rfl (Zz Y)
 ·exact oi [8,11] fun Y=>Qbg (h':=decide (d.seq<=1048576)) rfl rfl rfl (Zz Y)
 ·exact oi [12] fun Y=>Qam (.bool (((decide (d.rep<16))&&(decide (1<=d.seq)))&&(decide (d.seq<=1048576)))) (Zz Y)
 rintro J1 w3 J2 hJ Y
 replace hJ:J2=upd (mix (sq 3 13++[2]) J1 _) 2 (.bool (((decide (d.rep<16))&&(decide (1<=d.seq)))&&(decide (d.seq<=1048576)))):=hJ
 subst hJ
 refine Qav ?_
 refine ⟨_,Qan (V:=.bool (((decide (d.rep<16))&&(decide (1<=d.seq)))&&(decide (d.seq<=1048576)))) results112 rfl,(Zr Y ?_)⟩
 rfl
theorem Qgw (w:World) (v:Vec) (d:Dot) (hd:QcS d):Calls prog 40 #[.agg (vc v).toArray,.agg (dc d).toArray] w (fun e w'=>e = .returned (.bool (QbD v d))/\Own w no w' []):=by
 refine Qah (n:=16) func40 rfl ntmps40 rfl ?_
 have Y:=Own.start w
 have ⟨⟨hd1,hd2⟩,hd3,hd4⟩:=hd
 refine Qae (Qab (Qaa (QaY (V:=.agg (vc v).toArray) (cs:=vc v) rfl rfl Y fun b1 w2 Y=>(Qaa (QaY (V:=.agg (dc d).toArray) (cs:=dc d) rfl rfl Y fun b3 w4 Y=>(Qaa (Qam (.bool false) (Qad (Qae (QaH HM (so 5 11++[some 4]) [] [0,1,3,7,15,7,39,103,231,511,1023,2047] [pv (.agg (dc d).toArray),pv (.bool (QbQ d)),pv (.bool (QbQ d)),pg ((QbQ d) == true) (Pq b3 (0+1)),pg ((QbQ d) == true) (.int .u32 d.seq),pg ((QbQ d) == true) (Pq b3 (0+0)),pg ((QbQ d) == true) (.int .u8 d.rep),pg ((QbQ d) == true) (.pointer (some ⟨b1,0+d.rep.toNat,none⟩)),pg ((QbQ d) == true) (.int .u32 (vat v d.rep.toNat)),pg ((QbQ d) == true) (.bool (decide (d.seq<=vat v d.rep.toNat))),pv (.bool ((QbQ d)&&(decide (d.seq<=vat v d.rep.toNat)))),pv (.bool ((QbQ d)&&(decide (d.seq<=vat v d.rep.toNat))))] (fun _ _=>_) [11] (by kernel_rfl) Y ⟨?_,?_,?_,?_,?_,?_,?_,?_,?_,?_,?_,?_,trivial⟩ ?_))))))))))
 ·exact oi [] fun Y=>QaK (cs:=dc d) QcV Y 1 rfl rfl rfl (Zz Y)
 ·exact oi [0] fun Y=>Qas (vs:=[.agg (dc d).toArray]) (V:=.bool (QbQ d)) QxJ rfl rfl (Qs3 _ d) Y fun _ Y=>Zz Y
 ·exact oi [1] fun Y=>Qaf (.bool (QbQ d)) (Zz Y)
 ·refine ogi [2] fun hG Y=>?_
  have hb:=QaS (eq_of_beq hG)
  exact Qac QbN rfl (Zz Y)
 ·refine oyi [2,3] [3] fun hG Y=>?_
  have hb:=QaS (eq_of_beq hG)
  exact QaN (.int .u32 d.seq) QaU Y 1 (Zz Y)
 ·refine ogi [2] fun hG Y=>?_
  have hb:=QaS (eq_of_beq hG)
  exact Qac QbJ rfl (Zz Y)
 ·refine oyi [2,5] [5] fun hG Y=>?_
  have hb:=QaS (eq_of_beq hG)
  exact QaN (.int .u8 d.rep) QcI Y 1 (Zz Y)
 ·refine oyi [2,6] [6] fun hG Y=>?_
  have hb:=QaS (eq_of_beq hG)
  exact Qb2 Qd0 QaU.1 rfl rfl (by omega) (by omega) (Zz Y)
 ·refine oyi [2,7] [7] fun hG Y=>?_
  have hb:=QaS (eq_of_beq hG)
  exact Qmo (V:=.int .u32 (vat v d.rep.toNat)) QaU Y 0 rfl rfl (Qgc (by omega) (by omega)) (Zz Y)
 ·refine oyi [2,4,8] [4,8] fun hG Y=>?_
  have hb:=QaS (eq_of_beq hG)
  exact Qew rfl rfl (Zz Y)
 ·exact oi [2,9] fun Y=>Qbg (h':=decide (d.seq<=vat v d.rep.toNat)) rfl rfl rfl (Zz Y)
 ·exact oi [10] fun Y=>Qam (.bool ((QbQ d)&&(decide (d.seq<=vat v d.rep.toNat)))) (Zz Y)
 rintro J1 w6 J2 hJ Y
 replace hJ:J2=upd (mix (sq 5 11++[4]) J1 _) 4 (.bool ((QbQ d)&&(decide (d.seq<=vat v d.rep.toNat)))):=hJ
 subst hJ
 refine Qav ?_
 refine ⟨_,Qan (V:=.bool ((QbQ d)&&(decide (d.seq<=vat v d.rep.toNat)))) results40 rfl,(Zr Y ?_)⟩
 rfl
theorem QfP (w:World) (v:Vec) (d:Dot) (hd:QcS d):Calls prog 71 #[.agg (vc v).toArray,.agg (dc d).toArray] w (fun e w'=>e = .returned (.bool (QbD v d))/\Own w no w' []):=by
 refine Qah (n:=16) func71 rfl ntmps71 rfl ?_
 have Y:=Own.start w
 have ⟨⟨hd1,hd2⟩,hd3,hd4⟩:=hd
 refine Qae (Qab (Qaa (QaY (V:=.agg (vc v).toArray) (cs:=vc v) rfl rfl Y fun b1 w2 Y=>(Qaa (QaY (V:=.agg (dc d).toArray) (cs:=dc d) rfl rfl Y fun b3 w4 Y=>(Qaa (Qam (.bool false) (Qad (Qae (QaH HM (so 5 11++[some 4]) [] [0,1,3,7,15,7,39,103,231,511,1023,2047] [pv (.agg (dc d).toArray),pv (.bool (QbQ d)),pv (.bool (QbQ d)),pg ((QbQ d) == true) (Pq b3 (0+1)),pg ((QbQ d) == true) (.int .u32 d.seq),pg ((QbQ d) == true) (Pq b3 (0+0)),pg ((QbQ d) == true) (.int .u8 d.rep),pg ((QbQ d) == true) (.pointer (some ⟨b1,0+d.rep.toNat,none⟩)),pg ((QbQ d) == true) (.int .u32 (vat v d.rep.toNat)),pg ((QbQ d) == true) (.bool (decide (d.seq<=vat v d.rep.toNat))),pv (.bool ((QbQ d)&&(decide (d.seq<=vat v d.rep.toNat)))),pv (.bool ((QbQ d)&&(decide (d.seq<=vat v d.rep.toNat))))] (fun _ _=>_) [11] (by kernel_rfl) Y ⟨?_,?_,?_,?_,?_,?_,?_,?_,?_,?_,?_,?_,trivial⟩ ?_))))))))))
 ·exact oi [] fun Y=>QaK (cs:=dc d) QcV Y 1 rfl rfl rfl (Zz Y)
 ·exact oi [0] fun Y=>Qas (vs:=[.agg (dc d).toArray]) (V:=.bool (QbQ d)) Qor rfl rfl (QjK _ d) Y fun _ Y=>Zz Y
 ·exact oi [1] fun Y=>Qaf (.bool (QbQ d)) (Zz Y)
 ·refine ogi [2] fun hG Y=>?_
  have hb:=QaS (eq_of_beq hG)
  exact Qac QbN rfl (Zz Y)
 ·refine oyi [2,3] [3] fun hG Y=>?_
  have hb:=QaS (eq_of_beq hG)
  exact QaN (.int .u32 d.seq) QaU Y 1 (Zz Y)
 ·refine ogi [2] fun hG Y=>?_
  have hb:=QaS (eq_of_beq hG)
  exact Qac QbJ rfl (Zz Y)
 ·refine oyi [2,5] [5] fun hG Y=>?_
  have hb:=QaS (eq_of_beq hG)
  exact QaN (.int .u8 d.rep) QcI Y 1 (Zz Y)
 ·refine oyi [2,6] [6] fun hG Y=>?_
  have hb:=QaS (eq_of_beq hG)
  exact Qb2 Qd0 QaU.1 rfl rfl (by omega) (by omega) (Zz Y)
 ·refine oyi [2,7] [7] fun hG Y=>?_
  have hb:=QaS (eq_of_beq hG)
  exact Qmo (V:=.int .u32 (vat v d.rep.toNat)) QaU Y 0 rfl rfl (Qgc (by omega) (by omega)) (Zz Y)
 ·refine oyi [2,4,8] [4,8] fun hG Y=>?_
  have hb:=QaS (eq_of_beq hG)
  exact Qew rfl rfl (Zz Y)
 ·exact oi [2,9] fun Y=>Qbg (h':=decide (d.seq<=vat v d.rep.toNat)) rfl rfl rfl (Zz Y)
 ·exact oi [10] fun Y=>Qam (.bool ((QbQ d)&&(decide (d.seq<=vat v d.rep.toNat)))) (Zz Y)
 rintro J1 w6 J2 hJ Y
 replace hJ:J2=upd (mix (sq 5 11++[4]) J1 _) 4 (.bool ((QbQ d)&&(decide (d.seq<=vat v d.rep.toNat)))):=hJ
 subst hJ
 refine Qav ?_
 refine ⟨_,Qan (V:=.bool ((QbQ d)&&(decide (d.seq<=vat v d.rep.toNat)))) results71 rfl,(Zr Y ?_)⟩
 rfl
theorem QgW (w:World) (v:Vec) (n:Int) (hv:QbH v):Calls prog 60 #[.agg (vc v).toArray,.int .i64 n] w (fun e w'=>e = .returned (.bool (QaQ v n))/\Own w no w' []):=by
 refine Qah (n:=30) func60 rfl ntmps60 rfl ?_
 have Y:=Own.start w
 refine Qae (Qab (Qaa (QaY (V:=.agg (vc v).toArray) (cs:=vc v) rfl rfl Y fun b1 w2 Y=>(Qaa (Qam (.bool false) (Qad (Qae (Qae (Qbv (so 7 6) [] [0,1,3,7,15,31] [pv (I6 n),pv (.bool (decide (n<1))),pv (.bool (decide (n<1))),pg ((decide (n<1)) == false) (I6 n),pg ((decide (n<1)) == false) (.bool (decide (16<n))),pv (.bool ((decide (n<1))||(decide (16<n))))] (fun _ _=>_) [5] (by kernel_rfl) Y ⟨?_,?_,?_,?_,?_,?_,trivial⟩ ?_)))))))))
 ·exact oi [] fun Y=>Qaf (.int .i64 n) (Zz Y)
 ·exact oi [0] fun Y=>Qa0 rfl rfl (Zz Y)
 ·exact oi [1] fun Y=>Qaf (.bool (decide (n<1))) (Zz Y)
 ·exact ogi [2] fun hG Y=>Qaf (.int .i64 n) (Zz Y)
 ·exact oyi [2,3] [3] fun hG Y=>Qca rfl rfl (Zz Y)
 ·exact oi [2,4] fun Y=>QbP (h':=decide (16<n)) rfl rfl rfl (Zz Y)
 rintro J1 w3 J2 hJ Y
 replace hJ:J2=upd (mix (sq 7 6) J1 _) 12 (.bool ((decide (n<1))||(decide (16<n)))):=hJ
 subst hJ
 refine Qak (t:=(decide (n<1))||(decide (16<n))) rfl (fun c4=>?_) (fun c4=>?_)
 ·
  refine Qae (Qab (Qaa (Qam (.bool false) (Qad (Qav ?_)))))
  refine ⟨_,Qan (V:=.bool false) results60 rfl,(Zr Y ?_)⟩
  exact congrArg Value.bool (Qf0 c4).symm
 have c4r:=Qfa c4
 replace c4:=Qe8 c4
 replace c4:=QQ2 c4
 replace c4r:=QQ2 c4r
 refine Qap (Qae (Qae (Qab (Qaa (QaK (cs:=vc v) QbC Y 0 rfl rfl rfl (Qaa (Qaf (I6 0) (Qad (Qal (QaE (fun J μ J' w'=>∃ (Jo:Env) (k:Nat),J'=upd (mix ([4,5,6]++sq 14 16) Jo J) 14 (I6 (k:Int))/\(k<=16)/\(∀ j:Nat,j<k->QhI v n j=true)/\μ=16-k/\Own w no w' [blk b1 (vc v) 24]) ?_ ?_))))))))))
 ·exact ⟨_,_,0,Qai (Qao (ds:=([4,5,6]++sq 14 16)) (Agr.refl _ _)) rfl,(by omega),(fun j hj=>absurd hj (Nat.not_lt_zero j)),rfl,Y⟩
 rintro μ J' w5 ⟨Jo,k,rfl,hk,hok,rfl,Y⟩
 have hv1:=Qgy hv ((k:Int).toNat)
 have hkk:((k:Int)).toNat=k:=rfl
 refine Qae (Qab (Qaa (Qa0 rfl rfl (Qad (Qae (Qak (t:=decide ((k:Int)<16)) rfl (fun c6=>?_) (fun c6=>?_)))))))
 ·
  replace c6:=QQ1 c6
  refine Qap (Qae (Qal (Qae (Qab (Qaa (Qaf (I6 (k:Int)) (Qaa (Qj0 (V:=.int .u32 (vat v k)) Qd0 QaU rfl rfl (by omega) (by omega) (by rw [List.getElem?_toArray];exact Qiw _ _ (by omega)) ?_))))))))
  refine Qaa (Qam (I6 (k:Int)) (Qaa (Qam (.int .u32 (vat v k)) (Qad (Qae (Qbv (so 18 11) [] [0,1,3,7,7,31,63,127,255,511,1023] [pv (.int .u32 (vat v k)),pv (.bool (decide (1048576<vat v k))),pv (.bool (decide (1048576<vat v k))),pg ((decide (1048576<vat v k)) == false) (I6 (k:Int)),pg ((decide (1048576<vat v k)) == false) (I6 n),pg ((decide (1048576<vat v k)) == false) (.bool (decide (n<=(k:Int)))),pg ((decide (1048576<vat v k)) == false) (.bool (decide (n<=(k:Int)))),pg (((decide (1048576<vat v k)) == false)&&((decide (n<=(k:Int))) == true)) (.int .u32 (vat v k)),pg (((decide (1048576<vat v k)) == false)&&((decide (n<=(k:Int))) == true)) (.bool (decide (0<vat v k))),pg ((decide (1048576<vat v k)) == false) (.bool ((decide (n<=(k:Int)))&&(decide (0<vat v k)))),pv (.bool ((decide (1048576<vat v k))||((decide (n<=(k:Int)))&&(decide (0<vat v k)))))] (fun _ _=>_) [10] (by kernel_rfl) Y ⟨?_,?_,?_,?_,?_,?_,?_,?_,?_,?_,?_,trivial⟩ ?_))))))
  ·exact oi [] fun Y=>Qaf (.int .u32 (vat v k)) (Zz Y)
  ·exact oi [0] fun Y=>Qca rfl rfl (Zz Y)
  ·exact oi [1] fun Y=>Qaf (.bool (decide (1048576<vat v k))) (Zz Y)
  ·exact ogi [2] fun hG Y=>Qaf (.int .i64 (k:Int)) (Zz Y)
  ·exact ogi [2] fun hG Y=>Qaf (.int .i64 n) (Zz Y)
  ·exact oyi [2,3,4] [3,4] fun hG Y=>QcZ rfl rfl (Zz Y)
  ·exact oyi [2,5] [5] fun hG Y=>Qaf (.bool (decide (n<=(k:Int)))) (Zz Y)
  ·exact ogi [6] fun hG Y=>Qaf (.int .u32 (vat v k)) (Zz Y)
  ·exact oyi [6,7] [7] fun hG Y=>Qca rfl rfl (Zz Y)
  ·exact oyi [2,6,8] [6] fun hG Y=>Qi4 (h':=decide (0<vat v k)) (G:=((decide (1048576<vat v k)) == false)) hG rfl rfl rfl (Zz Y)
  ·exact oi [2,9] fun Y=>QbP (h':=(decide (n<=(k:Int)))&&(decide (0<vat v k))) rfl rfl rfl (Zz Y)
  rintro J1 w7 J2 hJ Y
  replace hJ:J2=upd (mix (sq 18 11) J1 _) 28 (.bool ((decide (1048576<vat v k))||((decide (n<=(k:Int)))&&(decide (0<vat v k))))):=hJ
  subst hJ
  refine Qak (t:=(decide (1048576<vat v k))||((decide (n<=(k:Int)))&&(decide (0<vat v k)))) rfl (fun c8=>?_) (fun c8=>?_)
  ·
   refine Qae (Qab (Qaa (Qam (.bool false) (Qad (Qav ?_)))))
   refine ⟨_,Qan (V:=.bool false) results60 rfl,(Zr Y ?_)⟩
   exact congrArg Value.bool (QiG (k:=k) (by omega) (QmG c8)).symm
  have c8r:=Qfa c8
  replace c8:=Qe8 c8
  replace c8:=QQ2 c8
  refine Qap (Qab (Qaa (QaB (a:=(k:Int)) (b:=1) (c:=(k:Int)+1) rfl rfl (Qbx (by omega) (by omega)) (Qaa (Qaf (I6 ((k:Int)+1)) (Qad ?_))))))
  refine ⟨_,?_,_,k+1,Qai (Qao (ds:=([4,5,6]++sq 14 16)) (by repeat (first|exact Agr.refl _ _|refine Agr.upd ?_ rfl|refine Agr.mix ?_ rfl))) rfl,(by omega),(QiO hok (Qkr c8 c8r)),rfl,Y.take 1⟩
  omega
 replace c6:=QQ2 c6
 refine QaI (Qae (Qab (Qaa (Qam (.bool true) (Qad (Qav ?_))))))
 refine ⟨_,Qan (V:=.bool true) results60 rfl,(Zr Y ?_)⟩
 exact congrArg Value.bool ((QhQ fun j hj=>hok j (by omega)).trans (by simp;omega)).symm
theorem Qjg (w:World) (v:Vec) (n:Int) (hv:QbH v):Calls prog 34 #[.agg (vc v).toArray,.int .i64 n] w (fun e w'=>e = .returned (.bool (QaQ v n))/\Own w no w' []):=by
 refine Qah (n:=31) func34 rfl ntmps34 rfl ?_
 have Y:=Own.start w
 refine Qae (Qab (Qaa (QaY (V:=.agg (vc v).toArray) (cs:=vc v) rfl rfl Y fun b1 w2 Y=>(Qaa (Qam (.bool false) (Qad (Qae (Qae (Qab (Qaa (Qam (I6 0) (Qad (Qal (QaE (fun J μ J' w'=>∃ (Jo:Env) (k:Nat),J'=upd (mix (sq 4 21) Jo J) 5 (I6 (k:Int))/\(k<=16)/\(∀ j:Nat,j<k->QhI v n j=true)/\μ=16-k/\Own w no w' [blk b1 (vc v) 24]) ?_ ?_))))))))))))))
 ·exact ⟨_,_,0,Qai (Qao (ds:=(sq 4 21)) (Agr.refl _ _)) rfl,(by omega),(fun j hj=>absurd hj (Nat.not_lt_zero j)),rfl,Y⟩
 rintro μ J' w3 ⟨Jo,k,rfl,hk,hok,rfl,Y⟩
 have hv1:=Qgy hv ((k:Int).toNat)
 have hkk:((k:Int)).toNat=k:=rfl
 refine Qae (Qae (Qab (Qaa (Qaf (I6 (k:Int)) (Qaa (Qa0 rfl rfl (Qad (Qak (t:=decide ((k:Int)<16)) rfl (fun c4=>?_) (fun c4=>?_)))))))))
 ·
  replace c4:=QQ1 c4
  refine Qap (Qae (Qal (Qae (Qbv (so 10 15) [] [0,1,3,7,15,31,31,127,255,511,1023,2047,4095,8191,16383] [pv (I6 (k:Int)),pv (.pointer (some ⟨b1,0+(k:Int).toNat,none⟩)),pv (.int .u32 (vat v k)),pv (.bool (decide (1048576<vat v k))),pv (.bool (decide (1048576<vat v k))),pg ((decide (1048576<vat v k)) == false) (I6 (k:Int)),pg ((decide (1048576<vat v k)) == false) (I6 n),pg ((decide (1048576<vat v k)) == false) (.bool (decide (n<=(k:Int)))),pg ((decide (1048576<vat v k)) == false) (.bool (decide (n<=(k:Int)))),pg (((decide (1048576<vat v k)) == false)&&((decide (n<=(k:Int))) == true)) (I6 (k:Int)),pg (((decide (1048576<vat v k)) == false)&&((decide (n<=(k:Int))) == true)) (.pointer (some ⟨b1,0+(k:Int).toNat,none⟩)),pg (((decide (1048576<vat v k)) == false)&&((decide (n<=(k:Int))) == true)) (.int .u32 (vat v k)),pg (((decide (1048576<vat v k)) == false)&&((decide (n<=(k:Int))) == true)) (.bool (!decide (vat v k=0))),pg ((decide (1048576<vat v k)) == false) (.bool ((decide (n<=(k:Int)))&&(!decide (vat v k=0)))),pv (.bool ((decide (1048576<vat v k))||((decide (n<=(k:Int)))&&(!decide (vat v k=0)))))] (fun _ _=>_) [14] (by kernel_rfl) Y ⟨?_,?_,?_,?_,?_,?_,?_,?_,?_,?_,?_,?_,?_,?_,?_,trivial⟩ ?_))))
  ·exact oi [] fun Y=>Qaf (.int .i64 (k:Int)) (Zz Y)
  ·exact oi [0] fun Y=>Qb2 Qd0 QaU.1 rfl rfl (by omega) (by omega) (Zz Y)
  ·exact oi [1] fun Y=>Qmo (V:=.int .u32 (vat v k)) QaU Y 0 rfl rfl (Qgc (by omega) (by omega)) (Zz Y)
  ·exact oi [2] fun Y=>Qca rfl rfl (Zz Y)
  ·exact oi [3] fun Y=>Qaf (.bool (decide (1048576<vat v k))) (Zz Y)
  ·exact ogi [4] fun hG Y=>Qaf (.int .i64 (k:Int)) (Zz Y)
  ·exact ogi [4] fun hG Y=>Qaf (.int .i64 n) (Zz Y)
  ·exact oyi [4,5,6] [5,6] fun hG Y=>QcZ rfl rfl (Zz Y)
  ·exact oyi [4,7] [7] fun hG Y=>Qaf (.bool (decide (n<=(k:Int)))) (Zz Y)
  ·exact ogi [8] fun hG Y=>Qaf (.int .i64 (k:Int)) (Zz Y)
  ·refine oyi [8,9] [9] fun hG Y=>?_
   have hgd0:=QQ2 (eq_of_beq (QbZ (hG)))
   have hgd1:=QQ1 (eq_of_beq (Qcl (hG)))
   exact Qb2 Qd0 QaU.1 rfl rfl (by omega) (by omega) (Zz Y)
  ·refine oyi [8,10] [10] fun hG Y=>?_
   have hgd0:=QQ2 (eq_of_beq (QbZ (hG)))
   have hgd1:=QQ1 (eq_of_beq (Qcl (hG)))
   exact Qmo (V:=.int .u32 (vat v k)) QaU Y 0 rfl rfl (Qgc (by omega) (by omega)) (Zz Y)
  ·exact oyi [8,11] [11] fun hG Y=>Qck rfl rfl (Zz Y)
  ·exact oyi [4,8,12] [8] fun hG Y=>Qi4 (h':=!decide (vat v k=0)) (G:=((decide (1048576<vat v k)) == false)) hG rfl rfl rfl (Zz Y)
  ·exact oi [4,13] fun Y=>QbP (h':=(decide (n<=(k:Int)))&&(!decide (vat v k=0))) rfl rfl rfl (Zz Y)
  rintro J1 w5 J2 hJ Y
  replace hJ:J2=upd (mix (sq 10 15) J1 _) 24 (.bool ((decide (1048576<vat v k))||((decide (n<=(k:Int)))&&(!decide (vat v k=0))))):=hJ
  subst hJ
  refine Qak (t:=(decide (1048576<vat v k))||((decide (n<=(k:Int)))&&(!decide (vat v k=0)))) rfl (fun c6=>?_) (fun c6=>?_)
  ·
   refine Qae (Qab (Qaa (Qam (.bool false) (Qad (Qav ?_)))))
   refine ⟨_,Qan (V:=.bool false) results34 rfl,(Zr Y ?_)⟩
   exact congrArg Value.bool (QiG (k:=k) (by omega) (Qqi hv c6)).symm
  have c6r:=Qfa c6
  replace c6:=Qe8 c6
  replace c6:=QQ2 c6
  refine Qap (Qab (Qaa (Qaf (I6 (k:Int)) (Qaa (QaB (a:=(k:Int)) (b:=1) (c:=(k:Int)+1) rfl rfl (Qbx (by omega) (by omega)) (Qaa (Qam (I6 ((k:Int)+1)) (Qad ?_))))))))
  refine ⟨_,?_,_,k+1,Qai (Qao (ds:=(sq 4 21)) (by repeat (first|exact Agr.refl _ _|refine Agr.upd ?_ rfl|refine Agr.mix ?_ rfl))) rfl,(by omega),(QiO hok (QnD hv c6 c6r)),rfl,Y.take 1⟩
  omega
 replace c4:=QQ2 c4
 refine QaI (Qae (Qbv (so 25 6++[some 4]) [] [0,1,3,7,15,31,63] [pv (I6 n),pv (.bool (decide (1<=n))),pv (.bool (decide (1<=n))),pg ((decide (1<=n)) == true) (I6 n),pg ((decide (1<=n)) == true) (.bool (decide (n<=16))),pv (.bool ((decide (1<=n))&&(decide (n<=16)))),pv (.bool ((decide (1<=n))&&(decide (n<=16))))] (fun _ _=>_) [6] (by kernel_rfl) Y ⟨?_,?_,?_,?_,?_,?_,?_,trivial⟩ ?_))
 ·exact oi [] fun Y=>Qaf (.int .i64 n) (Zz Y)
 ·exact oi [0] fun Y=>QcZ rfl rfl (Zz Y)
 ·exact oi [1] fun Y=>Qaf (.bool (decide (1<=n))) (Zz Y)
 ·exact ogi [2] fun hG Y=>Qaf (.int .i64 n) (Zz Y)
 ·exact oyi [2,3] [3] fun hG Y=>Qew rfl rfl (Zz Y)
 ·exact oi [2,4] fun Y=>Qbg (h':=decide (n<=16)) rfl rfl rfl (Zz Y)
 ·exact oi [5] fun Y=>Qam (.bool ((decide (1<=n))&&(decide (n<=16)))) (Zz Y)
 rintro J1 w7 J2 hJ Y
 replace hJ:J2=upd (mix (sq 25 6++[4]) J1 _) 4 (.bool ((decide (1<=n))&&(decide (n<=16)))):=hJ
 subst hJ
 refine Qav ?_
 refine ⟨_,Qan (V:=.bool ((decide (1<=n))&&(decide (n<=16)))) results34 rfl,(Zr Y ?_)⟩
 exact congrArg Value.bool (QhQ fun j hj=>hok j (by omega)).symm
theorem Qfj (w:World) (a b:Vec):Calls prog 29 #[.agg (vc a).toArray,.agg (vc b).toArray] w (fun e w'=>e = .returned (.bool (vle a b))/\Own w no w' []):=by
 refine Qah (n:=17) func29 rfl ntmps29 rfl ?_
 have Y:=Own.start w
 refine Qae (Qab (Qaa (QaY (V:=.agg (vc a).toArray) (cs:=vc a) rfl rfl Y fun b1 w2 Y=>(Qaa (QaY (V:=.agg (vc b).toArray) (cs:=vc b) rfl rfl Y fun b3 w4 Y=>(Qaa (Qam (.bool false) (Qad (Qae (Qae (Qab (Qaa (Qam (I6 0) (Qad (Qal (QaE (fun J μ J' w'=>∃ (Jo:Env) (k:Nat),J'=upd (mix (sq 4 13) Jo J) 5 (I6 (k:Int))/\(k<=16)/\(∀ j:Nat,j<k->vat a j<=vat b j)/\μ=16-k/\Own w no w' [blk b1 (vc a) 24,blk b3 (vc b) 24]) ?_ ?_))))))))))))))))
 ·exact ⟨_,_,0,Qai (Qao (ds:=(sq 4 13)) (Agr.refl _ _)) rfl,(by omega),(fun j hj=>absurd hj (Nat.not_lt_zero j)),rfl,Y⟩
 rintro μ J' w5 ⟨Jo,k,rfl,hk,hle,rfl,Y⟩
 refine Qae (Qae (Qab (Qaa (Qaf (I6 (k:Int)) (Qaa (Qa0 rfl rfl (Qad (Qak (t:=decide ((k:Int)<16)) rfl (fun c6=>?_) (fun c6=>?_)))))))))
 ·
  replace c6:=QQ1 c6
  refine Qap (Qae (Qal (Qae (QaH HM (so 10 7) [] [0,1,3,0,8,24,63] [pv (I6 (k:Int)),pv (.pointer (some ⟨b1,0+(k:Int).toNat,none⟩)),pv (.int .u32 (vat a k)),pv (I6 (k:Int)),pv (.pointer (some ⟨b3,0+(k:Int).toNat,none⟩)),pv (.int .u32 (vat b k)),pv (.bool (decide (vat b k<vat a k)))] (fun _ _=>_) [6] (by kernel_rfl) Y ⟨?_,?_,?_,?_,?_,?_,?_,trivial⟩ ?_))))
  ·exact oi [] fun Y=>Qaf (.int .i64 (k:Int)) (Zz Y)
  ·exact oi [0] fun Y=>Qb2 Qd0 QaU.1 rfl rfl (by omega) (by omega) (Zz Y)
  ·exact oi [1] fun Y=>Qmo (V:=.int .u32 (vat a k)) QaU Y 0 rfl rfl (Qgc (by omega) (by omega)) (Zz Y)
  ·exact oi [] fun Y=>Qaf (.int .i64 (k:Int)) (Zz Y)
  ·exact oi [3] fun Y=>Qb2 Qd0 QaU.1 rfl rfl (by omega) (by omega) (Zz Y)
  ·exact oi [4] fun Y=>Qmo (V:=.int .u32 (vat b k)) QaU Y 1 rfl rfl (Qgc (by omega) (by omega)) (Zz Y)
  ·exact oi [2,5] fun Y=>Qca rfl rfl (Zz Y)
  rintro J1 w7 J2 hJ Y
  replace hJ:J2=upd (mix (sq 10 7) J1 _) 16 (.bool (decide (vat b k<vat a k))):=hJ
  subst hJ
  refine Qak (t:=decide (vat b k<vat a k)) rfl (fun c8=>?_) (fun c8=>?_)
  ·
   replace c8:=QQ1 c8
   refine Qae (Qab (Qaa (Qam (.bool false) (Qad (Qav ?_)))))
   refine ⟨_,Qan (V:=.bool false) results29 rfl,(Zr Y ?_)⟩
   exact congrArg Value.bool (QuR (k:=k) (by omega) c8).symm
  replace c8:=QQ2 c8
  refine Qap (Qab (Qaa (Qaf (I6 (k:Int)) (Qaa (QaB (a:=(k:Int)) (b:=1) (c:=(k:Int)+1) rfl rfl (Qbx (by omega) (by omega)) (Qaa (Qam (I6 ((k:Int)+1)) (Qad ?_))))))))
  refine ⟨_,?_,_,k+1,Qai (Qao (ds:=(sq 4 13)) (by repeat (first|exact Agr.refl _ _|refine Agr.upd ?_ rfl|refine Agr.mix ?_ rfl))) rfl,(by omega),(QpG hle c8),rfl,Y.take 2⟩
  omega
 replace c6:=QQ2 c6
 refine QaI (Qae (Qab (Qaa (Qam (.bool true) (Qad (Qav ?_))))))
 refine ⟨_,Qan (V:=.bool true) results29 rfl,(Zr Y ?_)⟩
 exact congrArg Value.bool (Qki fun j hj=>hle j (by omega)).symm
theorem Qqm (w:World) (a b:Vec):Calls prog 104 #[.agg (vc a).toArray,.agg (vc b).toArray] w (fun e w'=>e = .returned (.agg (vc (vjoin a b)).toArray)/\Own w no w' []):=by
 refine Qah (n:=21) func104 rfl ntmps104 rfl ?_
 have Y:=Own.start w
 refine Qae (Qab (Qaa (QaY (V:=.agg (vc a).toArray) (cs:=vc a) rfl rfl Y fun b1 w2 Y=>(Qaa (QaY (V:=.agg (vc b).toArray) (cs:=vc b) rfl rfl Y fun b3 w4 Y=>(Qaa (QaJ (cs:=vc vzero) Qso rfl Y fun b5 w6 Y=>(Qad (Qae (Qae (Qab (Qaa (QaK (cs:=vc b) QbC Y 1 rfl rfl rfl (Qaa (Qaf (I6 0) (Qad (Qal (QaE (fun J μ J' w'=>∃ (Jo:Env) (k:Nat) (u:Vec),J'=upd (mix ([5,6]++sq 8 12) Jo J) 8 (I6 (k:Int))/\(k<=16)/\(u=Qgj a b k)/\μ=16-k/\Own w no w' [blk b1 (vc u) 24,blk b3 (vc b) 24,blk b5 (vc vzero) 24]) ?_ ?_))))))))))))))))))
 ·exact ⟨_,_,0,a,Qai (Qao (ds:=([5,6]++sq 8 12)) (Agr.refl _ _)) rfl,(by omega),((Qsg a b).symm),rfl,Y⟩
 rintro μ J' w7 ⟨Jo,k,u,rfl,hk,hu,rfl,Y⟩
 refine Qae (Qab (Qaa (Qa0 rfl rfl (Qad (Qae (Qak (t:=decide ((k:Int)<16)) rfl (fun c8=>?_) (fun c8=>?_)))))))
 ·
  replace c8:=QQ1 c8
  refine Qap (Qae (Qal (Qae (Qab (Qaa (Qaf (I6 (k:Int)) (Qaa (Qj0 (V:=.int .u32 (vat b k)) Qd0 QaU rfl rfl (by omega) (by omega) (by rw [List.getElem?_toArray];exact Qiw _ _ (by omega)) ?_))))))))
  refine Qaa (Qam (I6 (k:Int)) (Qaa (Qam (.int .u32 (vat b k)) (Qad (Qab (Qaa (Qaf (I6 (k:Int)) (Qaa (Qaf (I6 (k:Int)) (Qaa (Qb2 Qd0 QaU.1 rfl rfl (by omega) (by omega) (Qaa (Qmo (V:=.int .u32 (vat u k)) QaU Y 0 rfl rfl (Qgc (by omega) (by omega)) (Qaa (Qaf (.int .u32 (vat b k)) (Qaa (Qmi rfl rfl (Qaa (Qb2 Qd0 QaU.1 rfl rfl (by omega) (by omega) (Qaa (Qcs (V:=.int .u32 (max (vat u k) (vat b k))) (cs':=vc (vset u k (max (vat u k) (vat b k)))) QaU Y 0 rfl rfl rfl rfl (QvY (by omega)) (Qmq (by omega) (by omega)) fun w9 Y=>?_)))))))))))))))))))))
  replace Y:=Ow [blk b1 (vc (vset u k (max (vat u k) (vat b k)))) 24,blk b3 (vc b) 24,blk b5 (vc vzero) 24] Y
  refine Qad (Qab (Qaa (QaB (a:=(k:Int)) (b:=1) (c:=(k:Int)+1) rfl rfl (Qbx (by omega) (by omega)) (Qaa (Qaf (I6 ((k:Int)+1)) (Qad ?_))))))
  refine ⟨_,?_,_,k+1,vset u k (max (vat u k) (vat b k)),Qai (Qao (ds:=([5,6]++sq 8 12)) (by repeat (first|exact Agr.refl _ _|refine Agr.upd ?_ rfl|refine Agr.mix ?_ rfl))) rfl,(by omega),(by subst hu;exact Qlw (by omega)),rfl,Y.take 3⟩
  omega
 replace c8:=QQ2 c8
 refine QaI (Qae (Qab (Qaa (QaK (cs:=vc u) QbC Y 0 rfl rfl rfl (Qaa (Qcz (V:=.agg (vc u).toArray) (vs:=vc u) (cs':=vc u) QbC.1 Y 2 rfl rfl rfl rfl rfl (QQ8 rfl) (Qb0 _) (Qaz rfl) fun w10 Y=>?_))))))
 replace Y:=Ow [blk b1 (vc u) 24,blk b3 (vc b) 24,blk b5 (vc u) 24] Y
 refine Qad (Qav ?_)
 refine ⟨_,QcA (cs:=vc u) results104 QbC Y 2 rfl rfl rfl,(Zr Y ?_)⟩
 rw [hu,show k=16 by omega,Qrc]
theorem Qfc (w:World) (a b:Vec):Calls prog 61 #[.agg (vc a).toArray,.agg (vc b).toArray] w (fun e w'=>e = .returned (.bool (vle a b))/\Own w no w' []):=by
 refine Qah (n:=10) func61 rfl ntmps61 rfl ?_
 have Y:=Own.start w
 refine Qae (Qab (Qaa (QaY (V:=.agg (vc a).toArray) (cs:=vc a) rfl rfl Y fun b1 w2 Y=>(Qaa (QaY (V:=.agg (vc b).toArray) (cs:=vc b) rfl rfl Y fun b3 w4 Y=>(Qaa (Qam (.bool false) (Qad (Qae (QaH HM (so 5 5++[some 4]) [] [0,0,3,0,15,31] [pv (.agg (vc a).toArray),pv (.agg (vc b).toArray),pv (.agg (vc (vjoin a b)).toArray),pv (.agg (vc b).toArray),pv (.bool (decide (vjoin a b=b))),pv (.bool (decide (vjoin a b=b)))] (fun _ _=>_) [5] (by kernel_rfl) Y ⟨?_,?_,?_,?_,?_,?_,trivial⟩ ?_))))))))))
 ·exact oi [] fun Y=>QaK (cs:=vc a) QbC Y 0 rfl rfl rfl (Zz Y)
 ·exact oi [] fun Y=>QaK (cs:=vc b) QbC Y 1 rfl rfl rfl (Zz Y)
 ·exact oi [0,1] fun Y=>Qas (vs:=[.agg (vc a).toArray,.agg (vc b).toArray]) (V:=.agg (vc (vjoin a b)).toArray) QuX rfl rfl (Qqm _ a b) Y fun _ Y=>Zz Y
 ·exact oi [] fun Y=>QaK (cs:=vc b) QbC Y 1 rfl rfl rfl (Zz Y)
 ·exact oi [2,3] fun Y=>Qs4 (xs:=vc (vjoin a b)) (ys:=vc b) eqGuardType24 (Qxz (vjoin a b) b) rfl rfl rfl (Zz Y)
 ·exact oi [4] fun Y=>Qam (.bool (decide (vjoin a b=b))) (Zz Y)
 rintro J1 w6 J2 hJ Y
 replace hJ:J2=upd (mix [5,6,7,8,9,4] J1 _) 4 (.bool (decide (vjoin a b=b))):=hJ
 subst hJ
 refine Qav ?_
 refine ⟨_,Qan (V:=.bool (decide (vjoin a b=b))) results61 rfl,(Zr Y ?_)⟩
 exact congrArg Value.bool (Qtw a b)
theorem Qt4 (w:World) (v:Vec) (hv:QbH v):Calls prog 87 #[.agg (vc v).toArray] w (fun e w'=>e = .returned (.int .u64 (vsum v))/\Own w no w' []):=by
 refine Qah (n:=16) func87 rfl ntmps87 rfl ?_
 have Y:=Own.start w
 refine Qae (Qab (Qaa (QaY (V:=.agg (vc v).toArray) (cs:=vc v) rfl rfl Y fun b1 w2 Y=>(Qaa (Qam (.int .u64 0) (Qad (Qae (Qab (Qaa (Qam (.int .u64 0) (Qad (Qae (Qae (Qab (Qaa (QaK (cs:=vc v) QbC Y 0 rfl rfl rfl (Qaa (Qaf (I6 0) (Qad (Qal (QaE (fun J μ J' w'=>∃ (Jo:Env) (k:Nat) (n:Int),J'=upd (upd (mix ([3,5]++sq 7 8) Jo J) 7 (I6 (k:Int))) 3 (.int .u64 n)/\(k<=16)/\(n=QfU v k)/\(0<=n/\n<=(k:Int)*4294967296)/\μ=16-k/\Own w no w' [blk b1 (vc v) 24]) ?_ ?_)))))))))))))))))))))
 ·exact ⟨_,_,0,0,Qai (Qai (Qao (ds:=([3,5]++sq 7 8)) (Agr.refl _ _)) rfl) rfl,(by omega),rfl,(⟨by omega,by omega⟩),rfl,Y⟩
 rintro μ J' w3 ⟨Jo,k,n,rfl,hk,hn,hnb,rfl,Y⟩
 refine Qae (Qab (Qaa (Qa0 rfl rfl (Qad (Qae (Qak (t:=decide ((k:Int)<16)) rfl (fun c4=>?_) (fun c4=>?_)))))))
 ·
  replace c4:=QQ1 c4
  refine Qap (Qae (Qal (Qae ?_)))
  have hv1:=Qgy hv k
  refine Qab (Qaa (Qj0 (V:=.int .u32 (vat v k)) Qd0 QaU rfl rfl (by omega) (by omega) (by rw [List.getElem?_toArray];exact Qiw _ _ (by omega)) ?_))
  refine Qaa (Qam (.int .u32 (vat v k)) (Qad (Qab (Qaa (Qaf (.int .u64 n) (Qaa (Qaf (.int .u32 (vat v k)) (Qaa (QbV QiZ Qrx rfl (Qdu (by omega) (by omega)) (Qaa (QaB (a:=n) (b:=vat v k) (c:=n+(vat v k)) rfl rfl (Qdu (by omega) (by omega)) (Qaa (Qam (.int .u64 (n+(vat v k))) (Qad (Qab (Qaa (QaB (a:=(k:Int)) (b:=1) (c:=(k:Int)+1) rfl rfl (Qbx (by omega) (by omega)) (Qaa (Qaf (I6 ((k:Int)+1)) (Qad ?_))))))))))))))))))))
  refine ⟨_,?_,_,k+1,n+(vat v k),Qai (Qai (Qao (ds:=([3,5]++sq 7 8)) (by repeat (first|exact Agr.refl _ _|refine Agr.upd ?_ rfl|refine Agr.mix ?_ rfl))) rfl) rfl,(by omega),(QhL hn),(⟨by omega,by omega⟩),rfl,Y.take 1⟩
  omega
 replace c4:=QQ2 c4
 refine QaI (Qae (Qab (Qaa (Qaf (.int .u64 n) (Qaa (Qam (.int .u64 n) (Qad (Qav ?_))))))))
 refine ⟨_,Qan (V:=.int .u64 n) results87 rfl,(Zr Y ?_)⟩
 rw [hn,show k=16 by omega,Qn6]
theorem Qsy (w:World) (v:Vec) (hv:QbH v):Calls prog 99 #[.agg (vc v).toArray] w (fun e w'=>e = .returned (.int .u64 (vsum v))/\Own w no w' []):=by
 refine Qah (n:=16) func99 rfl ntmps99 rfl ?_
 have Y:=Own.start w
 refine Qae (Qab (Qaa (QaY (V:=.agg (vc v).toArray) (cs:=vc v) rfl rfl Y fun b1 w2 Y=>(Qaa (Qam (.int .u64 0) (Qad (Qae (Qab (Qaa (Qam (.int .u64 0) (Qad (Qae (Qae (Qab (Qaa (Qam (I6 0) (Qad (Qal (QaE (fun J μ J' w'=>∃ (Jo:Env) (k:Nat) (n:Int),J'=upd (upd (mix (sq 3 12) Jo J) 4 (I6 (k:Int))) 3 (.int .u64 n)/\(k<=16)/\(n=QfU v k)/\(0<=n/\n<=(k:Int)*4294967296)/\μ=16-k/\Own w no w' [blk b1 (vc v) 24]) ?_ ?_)))))))))))))))))))
 ·exact ⟨_,_,0,0,Qai (Qai (Qao (ds:=(sq 3 12)) (Agr.refl _ _)) rfl) rfl,(by omega),rfl,(⟨by omega,by omega⟩),rfl,Y⟩
 rintro μ J' w3 ⟨Jo,k,n,rfl,hk,hn,hnb,rfl,Y⟩
 refine Qae (Qae (Qab (Qaa (Qaf (I6 (k:Int)) (Qaa (Qa0 rfl rfl (Qad (Qak (t:=decide ((k:Int)<16)) rfl (fun c4=>?_) (fun c4=>?_)))))))))
 ·
  replace c4:=QQ1 c4
  refine Qap (Qae (Qal ?_))
  have hv1:=Qgy hv k
  refine Qab (Qaa (Qaf (.int .u64 n) (Qaa (Qaf (I6 (k:Int)) (Qaa (Qb2 Qd0 QaU.1 rfl rfl (by omega) (by omega) (Qaa (Qmo (V:=.int .u32 (vat v k)) QaU Y 0 rfl rfl (Qgc (by omega) (by omega)) (Qaa (QbV QiZ Qrx rfl (Qdu (by omega) (by omega)) (Qaa (QaB (a:=n) (b:=vat v k) (c:=n+(vat v k)) rfl rfl (Qdu (by omega) (by omega)) (Qaa (Qam (.int .u64 (n+(vat v k))) (Qad (Qab (Qaa (Qaf (I6 (k:Int)) (Qaa (QaB (a:=(k:Int)) (b:=1) (c:=(k:Int)+1) rfl rfl (Qbx (by omega) (by omega)) (Qaa (Qam (I6 ((k:Int)+1)) (Qad ?_)))))))))))))))))))))))
  refine ⟨_,?_,_,k+1,n+(vat v k),Qai (Qai (Qao (ds:=(sq 3 12)) (by repeat (first|exact Agr.refl _ _|refine Agr.upd ?_ rfl|refine Agr.mix ?_ rfl))) rfl) rfl,(by omega),(QhL hn),(⟨by omega,by omega⟩),rfl,Y.take 1⟩
  omega
 replace c4:=QQ2 c4
 refine QaI (Qae (Qab (Qaa (Qaf (.int .u64 n) (Qaa (Qam (.int .u64 n) (Qad (Qav ?_))))))))
 refine ⟨_,Qan (V:=.int .u64 n) results99 rfl,(Zr Y ?_)⟩
 rw [hn,show k=16 by omega,Qn6]
end Tt
end Go.Proofs
