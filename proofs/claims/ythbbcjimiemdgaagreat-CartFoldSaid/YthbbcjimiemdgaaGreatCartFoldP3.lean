/- A part of a proof: what functions of the program compute, and plain facts on that. -/
import Derived.Test.YthbbcjimiemdgaaGreatCartFoldP2
import Derived.KernelRfl
import Derived.Test.YthbbcjimiemdgaaGreatProg
import Derived.Shelf.SlSortCmp.Xorshift
import Derived.Laws.Bits64b
import Derived.Sort.LotD5
set_option linter.unusedVariables false
set_option linter.unusedSimpArgs false
set_option maxHeartbeats 4000000
set_option maxRecDepth 100000
namespace Go.Vx
def cv (e:Cen):Value:=.agg (cec e).toArray
def cz:Cen:=⟨0,0,0,0,⟨0,0⟩,0⟩
def QaD (l:List Cen):List (Dot × Cen):=l.foldl (fun m e=>mput e.dot e m) []
theorem Qfc (l:List Cen) (e:Cen):QaD (l++[e])=mput e.dot e (QaD l):=by unfold QaD;rw [List.foldl_append];rfl
theorem Qkc {l:List Cen} {k:Nat} (hk:k<l.length):QaD (l.take (k+1))=mput (gd l k).dot (gd l k) (QaD (l.take k)):=by rw [Qbf hk,Qfc]
theorem QeY (l:List Cen) (d:Dot):(mget d (QaD l)).isSome=l.any fun x=>decide (x.dot=d):=by
 refine Qbx (motive:=fun l=>(mget d (QaD l)).isSome=l.any fun x=>decide (x.dot=d)) rfl (fun l e ih=>?_) l
 rw [Qfc,Qc0,List.any_append,← ih]
 by_cases h:e.dot=d
 ·subst h;simp
 ·rw [if_neg (fun e2=>h e2.symm)];simp [h]
theorem QkX {l:List Cen} {d:Dot} {y:Cen}:mget d (QaD l)=some y→y∈l∧y.dot=d:=by
 refine Qbx (motive:=fun l=>mget d (QaD l)=some y→y∈l∧y.dot=d) (fun h=>by cases h) (fun l e ih h=>?_) l
 rw [Qfc,Qc0] at h
 by_cases e2:d=e.dot
 ·rw [if_pos e2] at h
  cases h
  exact ⟨by simp,e2.symm⟩
 ·rw [if_neg e2] at h
  have:=ih h
  exact ⟨by simp [this.1],this.2⟩
def QdP (b:Sta) (x:Cen):Bool:=b.ents.any fun y=>decide (y.dot=x.dot)&&!decide (y=x)
theorem Qoe {b:Sta} (hb:(b.ents.map (·.dot)).Nodup) (x:Cen):((mget x.dot (QaD b.ents)).isSome&&!decide ((mget x.dot (QaD b.ents)).getD cz=x))=QdP b x:=by
 cases hm:mget x.dot (QaD b.ents) with
 | none =>
  have h1:=QeY b.ents x.dot
  rw [hm] at h1
  have h2:QdP b x=false:=by
   unfold QdP
   rw [List.any_eq_false]
   intro y hy
   have h3:(b.ents.any fun x_1=>decide (x_1.dot=x.dot))=false:=h1.symm
   rw [List.any_eq_false] at h3
   have:=h3 y hy
   simp only [decide_eq_true_eq] at this
   simp [this]
  rw [h2];rfl
 | some z =>
  obtain ⟨hz,hd⟩:=QkX hm
  show (true&&!decide (z=x))=QdP b x
  unfold QdP
  by_cases e:z=x
  ·rw [QQ3 e]
   have:(b.ents.any fun y=>decide (y.dot=x.dot)&&!decide (y=x))=false:=by
    rw [List.any_eq_false]
    intro y hy
    by_cases h4:y.dot=x.dot
    ·have:=QeG hb y hy z hz (h4.trans hd.symm)
     rw [this];simp [e]
    ·simp [h4]
   rw [this];rfl
  ·rw [QQ4 e]
   have:(b.ents.any fun y=>decide (y.dot=x.dot)&&!decide (y=x))=true:=List.any_eq_true.2 ⟨z,hz,by simp [hd,e]⟩
   rw [this];rfl
def Qct (a b:Sta):Int:=if (QaO a&&QaO b)=false then 2 else if a.ents.any (QdP b)=true then 5 else 0
def QaN (a b:Sta):Sta:=if Qct a b=0 then Qsp a b else szero
theorem QlP (b:Sta) (x:Cen):((mget x.dot (QaD b.ents)).isSome||!QbC b.known x.dot)=Qex b x:=by unfold Qex;rw [QeY]
theorem Qk7 (a:Sta) (x:Cen):(!(mget x.dot (QaD a.ents)).isSome&&!QbC a.known x.dot)=Qeu a x:=by unfold Qeu;rw [QeY]
def QkB (l m:List Cen):Prop:=m.Perm l∧m.Pairwise fun x y=>¬QbM y x<0
theorem Qip {a b:Sta} (ha:RightC a) (hb:RightC b):((a.ents.filter (Qex b)++b.ents.filter (Qeu a)).map (·.dot)).Nodup:=by
 rw [List.map_append,List.nodup_append]
 refine ⟨ha.nd.sublist (List.filter_sublist.map _),hb.nd.sublist (List.filter_sublist.map _),?_⟩
 intro d hd e he h
 subst h
 obtain ⟨x,hx,rfl⟩:=List.mem_map.1 hd
 obtain ⟨y,hy,hxy⟩:=List.mem_map.1 he
 have hx1:=(List.mem_filter.1 hx).1
 have hy2:=(List.mem_filter.1 hy).2
 unfold Qeu at hy2
 simp only [Bool.and_eq_true,Bool.not_eq_true',List.any_eq_false,decide_eq_true_eq] at hy2
 exact hy2.1 x hx1 hxy.symm
theorem Qqi {m:List Cen} (hn:(m.map (·.dot)).Nodup) (h:m.Pairwise fun x y=>¬QbM y x<0):Qhn m:=by
 refine List.pairwise_iff_getElem.2 fun i j hi hj hij=>?_
 have h1:=List.pairwise_iff_getElem.1 h i j hi hj hij
 have h2:=List.pairwise_iff_getElem.1 hn i j (by simpa using hi) (by simpa using hj) hij
 rw [List.getElem_map,List.getElem_map] at h2
 rcases Qet h2 with g|g
 ·exact g
 ·exact absurd ((QdI _ _).2 g) h1
theorem Qp8 {l m:List Cen} (hn:(l.map (·.dot)).Nodup) (h:QkB l m):m=Qd0 l:=by
 have hp:=Qk0 l hn
 have hm:(m.map (·.dot)).Nodup:=(h.1.map _).nodup_iff.2 hn
 exact QlR (Qqi hm h.2) hp.1 fun x=>by rw [hp.2,h.1.mem_iff]
theorem Qkx {s:List Lst} (hs:QeN s):∀ t:List Lst,QeN (Qdk s t):=by
 refine Qbx (motive:=fun t=>QeN (Qdk s t)) hs fun t x ih=>?_
 rw [Qeq];exact Qg0 ih
theorem QiG {s t:List Lst} {k:Nat} (hk:k<t.length):Qdk s (t.take (k+1))=Qdb (gd t k).cart (gd t k).tick (Qdk s (t.take k)):=by rw [Qbf hk,Qeq]
theorem Qhi {c t:Int}:∀ l:List Lst,(Qdb c t l).length≤l.length+1
 | []=>by simp [Qdb]
 | x :: l=>by
  unfold Qdb
  split
  ·simp
  ·split
   ·simp
   ·have:=Qhi (c:=c) (t:=t) l;simp;omega
theorem Qki {s:List Lst}:∀ t:List Lst,(Qdk s t).length≤s.length+t.length:=by
 refine Qbx (motive:=fun t=>(Qdk s t).length≤s.length+t.length) (Nat.le_refl _) fun t x ih=>?_
 rw [Qeq,QQ7]
 have:=Qhi (c:=x.cart) (t:=x.tick) (Qdk s t)
 simp;omega
theorem QhR {a b:Sta} {m:List Cen} (ha:RightC a) (hb:RightC b) (hc:a.ents.any (QdP b)=false) (hm:QkB (a.ents.filter (Qex b)++b.ents.filter (Qeu a)) m):Qct a b=0∧QaN a b=⟨vjoin a.known b.known,m,Qdk a.ticks b.ticks⟩:=by
 have h1:Qct a b=0:=by unfold Qct;rw [QbP.2 ha,QbP.2 hb,if_neg (by decide),if_neg (by rw [hc];decide)]
 refine ⟨h1,?_⟩
 unfold QaN
 rw [if_pos h1,Qp8 (Qip ha hb) hm];rfl
def QsN (a b:Cen):Int:=orI [QaW a.count b.count,QaW a.dot.rep b.dot.rep,QaW a.dot.seq b.dot.seq]
theorem QrH (a b:Cen):decide (0<QsN a b)=QdY b a:=by
 rw [Bool.eq_iff_iff,decide_eq_true_iff,Qda]
 unfold QsN orI QaW
 rcases Int.lt_trichotomy a.count b.count with h|h|h
 ·simp [h];omega
 ·rw [if_neg (by omega),if_neg (by omega)]
  rcases Int.lt_trichotomy a.dot.rep b.dot.rep with h2|h2|h2
  ·simp [h,h2];omega
  ·rw [if_neg (by omega),if_neg (by omega)]
   rcases Int.lt_trichotomy a.dot.seq b.dot.seq with h3|h3|h3
   ·simp [h,h2,h3];omega
   ·rw [if_neg (by omega),if_neg (by omega)]
    simp;omega
   ·rw [if_neg (by omega),if_pos h3]
    simp;omega
  ·rw [if_neg (by omega),if_pos h2]
   simp;omega
 ·rw [if_neg (by omega),if_pos h]
  simp;omega
def Qez (a e:Cen):Cen:=if e.kind=1 then a else if QdY a e=true then e else a
theorem QmM (l:List Cen) (h:∀ e∈l,1≤e.count):l.foldl Qez cz=(QdA (l.filter fun e=>!decide (e.kind=1))).getD cz:=by
 revert h
 refine Qbx (motive:=fun l=>(∀ e∈l,1≤e.count)→l.foldl Qez cz=(QdA (l.filter fun e=>!decide (e.kind=1))).getD cz) (fun _=>rfl) (fun l e ih h=>?_) l
 have ih:=ih fun x hx=>h x (by simp [hx])
 have he:=h e (by simp)
 rw [List.foldl_append,List.filter_append]
 show Qez (l.foldl Qez cz) e=_
 unfold Qez
 by_cases hk:e.kind=1
 ·rw [if_pos hk]
  have:([e].filter fun e=>!decide (e.kind=1))=[]:=by simp [hk]
  rw [this,List.append_nil];exact ih
 ·rw [if_neg hk]
  have:([e].filter fun e=>!decide (e.kind=1))=[e]:=by simp [hk]
  rw [this,Qdw]
  rw [show l.foldl (fun a e=>if e.kind=1 then a else if QdY a e=true then e else a) cz=l.foldl Qez cz from rfl,ih]
  cases QdA (l.filter fun e=>!decide (e.kind=1)) with
  | none =>
   have:QdY cz e=true:=by rw [Qda];left;show 0<e.count;omega
   simp [this]
  | some y =>
   simp only [Option.getD_some]
   split<;>rfl
theorem Qd3 (l:List Cen) (e:Cen):QeE (l++[e])=if e.kind=1 then (QeE l+e.qty)%4294967296 else QeE l:=by unfold QeE;rw [List.foldl_append];rfl
theorem QqQ (l:List Cen) (h:∀ e∈l,0≤e.qty):0≤QeE l∧QeE l<4294967296:=by
 revert h
 refine Qbx (motive:=fun l=>(∀ e∈l,0≤e.qty)→0≤QeE l∧QeE l<4294967296) (fun _=>⟨Int.le_refl _,by decide⟩) (fun l e ih h=>?_) l
 have ih:=ih fun x hx=>h x (by simp [hx])
 rw [Qd3]
 split<;>omega
theorem Qnp {l:List Cen} (h:∀ e∈l,1≤e.count):(QeE l+(l.foldl Qez cz).qty)%4294967296=QdQ l:=by
 unfold QdQ
 rw [QmM l h]
 cases QdA (l.filter fun e=>!decide (e.kind=1))<;>rfl
theorem Qm7 (l:List Cen):l.foldl Qez cz=cz∨l.foldl Qez cz∈l:=by
 refine Qbx (motive:=fun l=>l.foldl Qez cz=cz∨l.foldl Qez cz∈l) (.inl rfl) (fun l e ih=>?_) l
 rw [List.foldl_append]
 show Qez (l.foldl Qez cz) e=cz∨Qez (l.foldl Qez cz) e∈l++[e]
 unfold Qez
 have key:l.foldl Qez cz=cz∨l.foldl Qez cz∈l++[e]:=by rcases ih with h|h;exact .inl h;exact .inr (by simp [h])
 split
 ·exact key
 ·split
  ·exact .inr (by simp)
  ·exact key
def Qiq (s:Sta) (c:Int):List Cen:=s.ents.filter fun e=>decide (e.cart=c)&&!decide (e.kind=4)
def QhO (s:Sta) (c n:Int):Line:=⟨n,QdQ (QdM s c n)⟩
def Grps (Q R:List Cen) (I:List Int):Prop:=∃ D,Q=D++R∧(∀ x∈D,∀ y∈R,x.item<y.item)∧I.Pairwise (· < ·)∧∀ i,i∈I↔∃ x∈D,x.item=i
theorem Qko (Q:List Cen):Grps Q Q []:=⟨[],by simp,by simp,List.Pairwise.nil,by simp⟩
theorem QmN {Q R:List Cen} {I:List Int} {n:Nat} (h:Grps Q R I) (hs:QkC (fun x y=>QaW x.item y.item) Q) (hn1:1≤n) (hn:n≤R.length) (heq:∀ j,j<n→(gd R j).item=(gd R 0).item) (hne:n=R.length∨(gd R n).item≠(gd R 0).item) :
  Grps Q (R.drop n) (I++[(gd R 0).item])∧∀ x,x∈R.take n↔x∈Q∧x.item=(gd R 0).item:=by
 obtain ⟨D,hQ,hlt,hI,hm⟩:=h
 subst hQ
 have hR:QkC (fun x y=>QaW x.item y.item) R:=(QmU hs).2.1
 have hle:∀ i j,i≤j→j<R.length→(gd R i).item≤(gd R j).item:=fun i j hij hj=>by
  rcases Nat.lt_or_eq_of_le hij with g|g
  ·have:=QrM hR g hj
   rw [Qjc] at this;omega
  ·subst g;exact Int.le_refl _
 have htk:∀ x∈R.take n,x.item=(gd R 0).item:=fun x hx=>by
  obtain ⟨j,hj,rfl⟩:=List.mem_take_iff_getElem.1 hx
  have:=heq j (by omega)
  simpa [gd,show j<R.length by omega] using this
 have hdr:∀ x∈R.drop n,(gd R 0).item<x.item:=fun x hx=>by
  obtain ⟨j,hj,rfl⟩:=QeV hx
  rw [List.length_drop] at hj
  have e:gd (R.drop n) j=gd R (n+j):=by simp [gd,List.getElem?_drop]
  rw [e]
  rcases hne with g|g
  ·omega
  ·have h1:=hle 0 n (Nat.zero_le _) (by omega)
   have h2:=hle n (n+j) (by omega) (by omega)
   omega
 have h0:gd R 0∈R:=Qbq (by omega)
 refine ⟨⟨D++R.take n,by rw [List.append_assoc,List.take_append_drop],?_,?_,?_⟩,?_⟩
 ·intro x hx y hy
  rcases List.mem_append.1 hx with g|g
  ·exact hlt x g y (List.mem_of_mem_drop hy)
  ·rw [htk x g];exact hdr y hy
 ·rw [List.pairwise_append]
  refine ⟨hI,List.pairwise_singleton _ _,fun i hi j hj=>?_⟩
  rw [List.mem_singleton.1 hj]
  obtain ⟨x,hx,rfl⟩:=(hm i).1 hi
  exact hlt x hx _ h0
 ·intro i
  rw [List.mem_append,hm,List.mem_singleton]
  constructor
  ·rintro (⟨x,hx,e⟩|e)
   ·exact ⟨x,by simp [hx],e⟩
   ·exact ⟨gd R 0,List.mem_append.2 (.inr (List.mem_take_iff_getElem.2 ⟨0,by omega,by simp [gd,show 0<R.length by omega]⟩)),e.symm⟩
  ·rintro ⟨x,hx,e⟩
   rcases List.mem_append.1 hx with g|g
   ·exact .inl ⟨x,g,e⟩
   ·exact .inr (by rw [← e];exact htk x g)
 ·intro x
  constructor
  ·intro hx;exact ⟨List.mem_append.2 (.inr (List.mem_of_mem_take hx)),htk x hx⟩
  ·rintro ⟨hx,e⟩
   rcases List.mem_append.1 hx with g|g
   ·have:=hlt x g _ h0;omega
   ·rw [← List.take_append_drop n R] at g
    rcases List.mem_append.1 g with g|g
    ·exact g
    ·have:=hdr x g;omega
theorem Qee {l m:List Int} (hl:l.Pairwise (· < ·)) (hm:m.Pairwise (· < ·)) (h:∀ x,x∈l↔x∈m):l=m:=by
 have hp:l.Perm m:=(List.perm_ext_iff_of_nodup (hl.imp fun h=>by omega) (hm.imp fun h=>by omega)).2 h
 exact hp.eq_of_pairwise (le:=fun a b=>a≤b) (fun a b _ _ h1 h2=>Int.le_antisymm h1 h2) (hl.imp fun h=>Int.le_of_lt h) (hm.imp fun h=>Int.le_of_lt h)
theorem QnW {s:Sta} {c:Int} {Q:List Cen} {I:List Int} (hp:Q.Perm (Qiq s c)) (h:Grps Q [] I):I.map (QhO s c)=(Qgl s c).lines:=by
 obtain ⟨D,hQ,_,hI,hm⟩:=h
 rw [List.append_nil] at hQ
 subst hQ
 have ho:=QdZ (Qds s c)
 have:I=Qfv (Qds s c):=Qee hI ho.1 fun i=>by
  rw [hm,ho.2]
  unfold Qds
  rw [List.mem_map]
  constructor
  ·rintro ⟨x,hx,e⟩;exact ⟨x,hp.mem_iff.1 hx,e⟩
  ·rintro ⟨x,hx,e⟩;exact ⟨x,hp.mem_iff.2 hx,e⟩
 rw [this];rfl
theorem Qm8 {s:Sta} {c:Int} {Q G:List Cen} {n:Int} (hr:RightC s) (hp:Q.Perm (Qiq s c)) (hG:G.Sublist Q) (hm:∀ x,x∈G↔x∈Q∧x.item=n):QdQ G=QdQ (QdM s c n):=by
 have hQ:(Q.map (·.dot)).Nodup:=(hp.map _).nodup_iff.2 (hr.nd.sublist (List.filter_sublist.map _))
 refine Qg2 (hQ.sublist (hG.map _)) (hr.nd.sublist (List.filter_sublist.map _)) fun x=>?_
 rw [hm,hp.mem_iff]
 unfold Qiq QdM
 rw [List.mem_filter,List.mem_filter]
 simp only [Bool.and_eq_true,decide_eq_true_eq]
 constructor
 ·rintro ⟨⟨a,b,c⟩,d⟩;exact ⟨a,b,d,c⟩
 ·rintro ⟨a,b,d,c⟩;exact ⟨⟨a,b,c⟩,d⟩
end Go.Vx
namespace Go.Vx
open Go.RowKit
def mOf:Value→Nat
 | .map (some r)=>r
 | _=>0
section
variable {P:Program} {ty:TypeId} {e:Operand→Value} {w:World} {K:Value→World→Prop}
theorem Qf8 {κ ν:Type} [DecidableEq κ] {ke:κ→Value} {ve:ν→Value} {l:List (κ × ν)} {r kt el t:Nat} {x y:Operand} {z:ν} {k:κ} (ht:Ud P t (.map kt el)) (hk:KeyOk P kt ke) (hz:Zv P el (ve z)) (hm:Qih w r ke ve l) (hx:e x = .map (some r)) (hy:e y=ke k)
  (h:K (.tuple #[ve ((mget k l).getD z),.bool (mget k l).isSome]) w):opW P (.lookup t x y true) ty e w K:=by
 refine QgG (k:=k) ht hk hz hm hx hy ?_
 cases hg:mget k l with
 | none=>rw [hg] at h;exact h
 | some v=>rw [hg] at h;exact h
end
section
variable {α:Type} [Inhabited α] {l X out:List α} {p:α→Bool} {k:Nat}
theorem Qgp (h:out=X++(l.take k).filter p) (hk:k<l.length) (hp:p (gd l k)=true):out++[gd l k]=X++(l.take (k+1)).filter p:=by
 rw [QcE hk,List.filter_append,h,List.append_assoc];simp [hp]
theorem Qhj (h:out=X++(l.take k).filter p) (hk:k<l.length) (hp:p (gd l k)=false):out=X++(l.take (k+1)).filter p:=by
 rw [QcE hk,List.filter_append,h];simp [hp]
end
theorem QlI {b:Sta} {l:List Cen} (h:∀ j:Nat,j<l.length→QdP b (gd l j)=false):l.any (QdP b)=false:=by
 rw [List.any_eq_false]
 intro x hx
 obtain ⟨j,hj,rfl⟩:=QeV hx
 rw [h j hj];decide
theorem Qk3 {b:Sta} {l:List Cen} {k:Nat} (hk:k<l.length) (h:QdP b (gd l k)=true):l.any (QdP b)=true:=List.any_eq_true.2 ⟨_,Qbq hk,h⟩
theorem Qmo {a b:Sta} (h:(QaO a&&QaO b)=false):Qct a b=2∧QaN a b=szero:=by
 have h1:Qct a b=2:=by unfold Qct;rw [if_pos h]
 exact ⟨h1,by unfold QaN;rw [h1,if_neg (by decide)]⟩
theorem Qix {a b:Sta} (ha:QaO a=true) (hb:QaO b=true) (h:a.ents.any (QdP b)=true):Qct a b=5∧QaN a b=szero:=by
 have h1:Qct a b=5:=by unfold Qct;rw [ha,hb,if_neg (by decide),if_pos h]
 exact ⟨h1,by unfold QaN;rw [h1,if_neg (by decide)]⟩
theorem QjV {a b:Sta} {m:List Cen} (ha:RightC a) (hb:RightC b) (hc:a.ents.any (QdP b)=false) (hm:QkB (a.ents.filter (Qex b)++b.ents.filter (Qeu a)) m) {L:List Cen} (hL:L=a.ents.filter (Qex b)++b.ents.filter (Qeu a)):L.length=(QaN a b).ents.length:=by
 rw [(QhR ha hb hc hm).2,hL];exact hm.1.length_eq.symm
end Go.Vx
namespace Go.Proofs
open Go Go.Vx Go.RowKit
namespace Tt
theorem QtB (a b:Cen):EqF Tryz.prog 3 59 (.agg (cec a).toArray) (.agg (cec b).toArray) (decide (a=b)):=by
 rw [← Qp4]
 exact Qe0 (D:=2) Tryz.underlying59 Tryz.stoodInHeld59 (.cons (by decide) (Qbc ⟨Tryz.sizeOf31,Tryz.isAgg31⟩ rfl) (Qbc ⟨Tryz.sizeOf31,Tryz.isAgg31⟩ rfl) ((Qdp Tryz.runUnderlying31).up (by decide)) (.cons (by decide) (Qbc ⟨Tryz.sizeOf31,Tryz.isAgg31⟩ rfl) (Qbc ⟨Tryz.sizeOf31,Tryz.isAgg31⟩ rfl) ((Qdp Tryz.runUnderlying31).up (by decide)) (.cons (by decide) (Qbc ⟨Tryz.sizeOf31,Tryz.isAgg31⟩ rfl) (Qbc ⟨Tryz.sizeOf31,Tryz.isAgg31⟩ rfl) ((Qdp Tryz.runUnderlying31).up (by decide)) (.cons (by decide) (Qbc ⟨Tryz.sizeOf5,Tryz.isAgg5⟩ rfl) (Qbc ⟨Tryz.sizeOf5,Tryz.isAgg5⟩ rfl) ((Qdp Tryz.runUnderlying5).up (by decide)) (.cons (by decide) (QhF Qcv rfl rfl) (QhF Qcv rfl rfl) ((QoN _ _).up (by decide)) (.cons (by decide) (Qbc ⟨Tryz.sizeOf54,Tryz.isAgg54⟩ rfl) (Qbc ⟨Tryz.sizeOf54,Tryz.isAgg54⟩ rfl) ((Qdp Tryz.runUnderlying54).up (by decide)) .nil))))))
theorem QtJ:En Tryz.prog 26:=Tryz.call26
theorem QrP:En Tryz.prog 65:=Tryz.call65
theorem Qud:En Tryz.prog 68:=Tryz.call68
theorem QkH:Ud Tryz.prog 119 (.map 30 59):=Tryz.runUnderlying119
end Tt
end Go.Proofs
namespace Go.Vx
theorem Qna {l:List Cen} {k:Nat} {s:Int} (h:s=QeE (l.take k)) (hk:k<l.length) (hy:(gd l k).kind=1):(s+(gd l k).qty)%4294967296=QeE (l.take (k+1)):=by rw [Qbf hk,Qd3,if_pos hy,h]
theorem QmR {l:List Cen} {k:Nat} {s:Int} (h:s=QeE (l.take k)) (hk:k<l.length) (hn:¬(gd l k).kind=1):s=QeE (l.take (k+1)):=by rw [Qbf hk,Qd3,if_neg hn,h]
theorem Qgi {l:List Cen} {k:Nat} {t:Cen} (h:t=(l.take k).foldl Qez cz) (hk:k<l.length):Qez t (gd l k)=(l.take (k+1)).foldl Qez cz:=by rw [Qbf hk,List.foldl_append,← h];rfl
theorem Qmk {t e:Cen} (h:e.kind=1):Qez t e=t:=by unfold Qez;rw [if_pos h]
theorem Qor {t e:Cen} (h:¬e.kind=1) (g:QdY t e=true):Qez t e=e:=by unfold Qez;rw [if_neg h,if_pos g]
theorem QqC {t e:Cen} (h:¬e.kind=1) (g:QdY t e=false):Qez t e=t:=by unfold Qez;rw [if_neg h,if_neg (by rw [g];decide)]
theorem Qoy {l:List Cen} (h:∀ e∈l,QiJ e):0≤(l.foldl Qez cz).qty∧(l.foldl Qez cz).qty<65536:=by
 rcases Qm7 l with g|g
 ·rw [g];exact ⟨Int.le_refl _,by decide⟩
 ·exact (h _ g).2.2.1
theorem Qdt {α:Type} [Inhabited α] {l:List α} {p:α→Bool} {k:Nat} {b:Bool} (h:b=(l.take k).any p) (hk:k<l.length):(b||p (gd l k))=(l.take (k+1)).any p:=by
 rw [Qbf hk,List.any_append,← h];simp
theorem QpZ {s:Sta} {c:Int} {Q R:List Cen} {I:List Int} {n:Nat} (hr:RightC s) (hp:Q.Perm (Qiq s c)) (h:Grps Q R I) (hs:QkC (fun x y=>QaW x.item y.item) Q) (hn1:1≤n) (hn:n≤R.length) (heq:∀ j,j<n→(gd R j).item=(gd R 0).item) (hne:n=R.length∨(gd R n).item≠(gd R 0).item) :
  Grps Q (R.drop n) (I++[(gd R 0).item])∧QhO s c (gd R 0).item=⟨(gd R 0).item,QdQ (R.take n)⟩:=by
 obtain ⟨h1,h2⟩:=QmN h hs hn1 hn heq hne
 obtain ⟨D,hQ,_⟩:=h
 refine ⟨h1,?_⟩
 unfold QhO
 rw [Qm8 hr hp (by rw [hQ];exact (List.take_sublist _ _).trans (List.sublist_append_right _ _)) h2]
theorem Qon {Q R:List Cen} {I:List Int} (h:Grps Q R I):∀ x∈R,x∈Q:=by
 obtain ⟨D,hQ,_⟩:=h
 intro x hx;rw [hQ];exact List.mem_append_right _ hx
theorem QkM {s:Sta} {c i:Int} {I:List Int} {o:List Line} {x:Line} (h:o=I.map (QhO s c)) (hx:QhO s c i=x):o++[x]=(I++[i]).map (QhO s c):=by rw [List.map_append,← h,List.map_singleton,hx]
theorem QpM {s:Sta} {c tk:Int} {ob:Bool} {o:List Line} {Q R:List Cen} {I:List Int} (hrt:QaO s=true) (htk:tk=(QaV s.ticks c).getD 0) (hob:ob=s.ents.any fun e=>decide (e.cart=c)&&decide (e.kind=4)) (hp:Q.Perm (Qiq s c)) (h:Grps Q R I) (hR:R.length=0) (ho:o=I.map (QhO s c)):Qfy s c (QaO s)=⟨c,o,ob,tk⟩:=by
 have:R=[]:=List.length_eq_zero_iff.1 hR
 subst this
 unfold Qfy
 rw [if_pos hrt,ho,QnW hp h,hob,htk];rfl
theorem QpB {ts:List Lst} {c:Int} (h:(QaV ts c).isSome=false):(0:Int)=(QaV ts c).getD 0:=by
 cases hq:QaV ts c with
 | none=>rfl
 | some v=>rw [hq] at h;cases h
theorem Qoj {s:Sta} {c:Int} {x:Cen} (hr:RightC s) (h:x∈Qiq s c):x∈s.ents∧1≤x.count:=by
 have h1:=(List.mem_filter.1 h).1
 have h2:=hr.ent x h1
 unfold Qmu at h2
 simp only [Bool.and_eq_true,decide_eq_true_eq] at h2
 exact ⟨h1,h2.1.2⟩
def QcV (s:Sta):List Int:=if QaO s=true then s.ticks.map (·.cart) else []
end Go.Vx
namespace Go.Proofs
open Go Go.Vx Go.RowKit
namespace Tt
theorem QmZ:T1 Tryz.prog 4:=⟨Tryz.sizeOf4,Tryz.isAgg4⟩
theorem Qft:T1 Tryz.prog 62:=⟨Tryz.sizeOf62,Tryz.isAgg62⟩
theorem Qeh:TA Tryz.prog 64 4:=⟨Tryz.sizeOf64,Tryz.isAgg64⟩
theorem Qis:TA Tryz.prog 74 2:=⟨Tryz.sizeOf74,Tryz.isAgg74⟩
theorem QqD:Bt Tryz.prog 64 [(0,1),(1,1),(2,1),(3,1)] ([.int .u16 0,.slice none 0 0,.bool false,.int .u32 0]):=QcP Tryz.type64 rfl rfl Tryz.underlying64 (by kernel_rfl)
theorem QpG:Bt Tryz.prog 74 [(0,1),(1,1)] (lc (⟨0,0⟩:Line)):=QcP Tryz.type74 rfl rfl Tryz.underlying74 (by kernel_rfl)
theorem Qks:El Tryz.prog 62 74 2 8:=⟨Tryz.underlying62,_,_,Tryz.type74,rfl,rfl,rfl,rfl,by decide⟩
theorem QjY:El Tryz.prog 68 31 1 2:=⟨Tryz.underlying68,_,_,Tryz.type31,rfl,rfl,rfl,rfl,by decide⟩
theorem Qtz:En Tryz.prog 55:=Tryz.call55
theorem Quc:En Tryz.prog 56:=Tryz.call56
theorem QtL:En Tryz.prog 58:=Tryz.call58
theorem Qs9:En Tryz.prog 92:=Tryz.call92
theorem QcR:FA Tryz.prog 64 1 1:=fun b o w=>by simp [Instr.fieldAt,Instr.sureAddr,fieldPlace,Qbp]
theorem QeZ:FA Tryz.prog 64 2 2:=fun b o w=>by simp [Instr.fieldAt,Instr.sureAddr,fieldPlace,Qbp]
theorem Qey:FA Tryz.prog 64 3 3:=fun b o w=>by simp [Instr.fieldAt,Instr.sureAddr,fieldPlace,Qbp]
theorem Qf4:Ud Tryz.prog 31 (.int .u16):=Tryz.runUnderlying31
theorem Qik:Zv Tryz.prog 64 (.agg #[.int .u16 0,.slice none 0 0,.bool false,.int .u32 0]):=Tryz.zeroValue64
theorem QtY:Zv Tryz.prog 74 (.agg (lc (⟨0,0⟩:Line)).toArray):=Tryz.zeroValue74
end Tt
end Go.Proofs
namespace Go.Vx
theorem Own.sel {w0 w:World} {M:Nat→Prop} {L:List Res} (h:Own w0 M w L) (is:List Nat) {L':List Res} (hn:is.Nodup) (he:(is.map fun i=>L[i]?)=L'.map some):Own w0 M w L':=by
 obtain ⟨a,b,c,d,e,S,f,g,i,j⟩:=h
 have key:∀ {k:Nat} {R:Res},L'[k]?=some R→∃ n,is[k]?=some n∧L[n]?=some R:=fun {k R} hk=>by
  have h1:(is.map fun i=>L[i]?)[k]?=(L'.map some)[k]?:=by rw [he]
  rw [List.getElem?_map,List.getElem?_map,hk] at h1
  cases hi:is[k]? with
  | none=>rw [hi] at h1;cases h1
  | some n=>rw [hi] at h1;exact ⟨n,rfl,by simpa using h1⟩
 refine ⟨a,b,c,d,e,fun k b=>∃ n,is[k]?=some n∧S n b,fun k R hk=>?_,?_,?_,?_⟩
 ·obtain ⟨n,h1,h2⟩:=key hk
  have e1:(fun b=>∃ m,is[k]?=some m∧S m b)=S n:=by
   funext b;apply propext
   constructor
   ·rintro ⟨m,h3,h4⟩;rw [h1] at h3;cases h3;exact h4
   ·exact fun h=>⟨n,h1,h⟩
  show R.holds w (fun b=>∃ m,is[k]?=some m∧S m b)
  rw [e1];exact f n R h2
 ·rintro k b ⟨n,_,h⟩;exact g n b h
 ·rintro k k' b ⟨n,h1,h2⟩ ⟨m,h3,h4⟩
  have hnm:=i n m b h2 h4
  subst hnm
  have hk:k<is.length:=by rcases Nat.lt_or_ge k is.length with q|q;exact q;rw [List.getElem?_eq_none q] at h1;cases h1
  have hk':k'<is.length:=by rcases Nat.lt_or_ge k' is.length with q|q;exact q;rw [List.getElem?_eq_none q] at h3;cases h3
  rw [List.getElem?_eq_getElem hk] at h1
  rw [List.getElem?_eq_getElem hk'] at h3
  exact (List.getElem_inj hn).1 ((Option.some.inj h1).trans (Option.some.inj h3).symm)
 ·rintro k b ⟨n,_,h⟩ hb;exact j n b h hb
section
variable {α:Type} [Inhabited α] {l m:List α}
theorem QjI {k:Nat} (h:∀ j:Nat,j<k→gd l j=gd m j) (hk:gd l k=gd m k):∀ j:Nat,j<k+1→gd l j=gd m j:=by
 intro j hj
 by_cases e:j=k
 ·subst e;exact hk
 ·exact h j (by omega)
theorem Qhs (hn:l.length=m.length) (h:∀ j:Nat,j<l.length→gd l j=gd m j):l=m:=by
 apply List.ext_getElem hn
 intro j h1 h2
 have:=h j h1
 simpa [gd,h1,h2] using this
end
theorem Seq.take {l:List Opn} (h:Seq l):∀ k,Seq (l.take k):=by
 induction h with
 | nil=>intro k;rw [List.take_nil];exact .nil
 | @snoc l o h1 h2 h3 h4 h5 h6 ih =>
  intro k
  rcases Nat.lt_or_ge l.length k with q|q
  ·rw [List.take_of_length_le (by rw [QQ7,List.length_singleton];omega)];exact .snoc h1 h2 h3 h4 h5 h6
  ·rw [List.take_append_of_le_length q];exact ih k
theorem Qoi {l:List Opn} (h:Seq l) {k:Nat} (hk:k<l.length):Qcg (Qaq (l.take k)) (gd l k)=0∧QaE (Qaq (l.take k)) (gd l k)=Qaq (l.take (k+1)):=by
 have h1:=h.take (k+1)
 rw [Qbf hk] at h1
 have h2:=h1.cut.1
 have h3:Qcg (Qaq (l.take k)) (gd l k)=0:=by
  unfold Qcg
  rw [if_pos (QbP.2 h2.right),Qc1];exact h1.ready
 exact ⟨h3,by unfold QaE;rw [if_pos h3,Qbf hk,QdB]⟩
theorem Qi8 {e:Cen}:∀ {l:List Cen},(QjG e l).length=l.length+1
 | []=>rfl
 | x :: l=>by
  unfold QjG;split
  ·rfl
  ·rw [List.length_cons,Qi8];rfl
theorem Qkl (s:Sta) (o:Opn):(QdU s o).ents.length≤s.ents.length+1∧(QdU s o).ticks.length≤s.ticks.length+1:=by
 have h1:=List.length_filter_le (fun e=>!Qay o (QaS e)) s.ents
 refine ⟨?_,Qhi s.ticks⟩
 unfold QdU
 dsimp only
 split
 ·rw [Qi8];omega
 ·omega
theorem Qjw (l:List Opn):(Qaq l).ents.length≤l.length∧(Qaq l).ticks.length≤l.length:=by
 refine Qbx (motive:=fun l=>(Qaq l).ents.length≤l.length∧(Qaq l).ticks.length≤l.length) ⟨Nat.le_refl _,Nat.le_refl _⟩ (fun l o ih=>?_) l
 rw [QdB,QQ7,List.length_singleton]
 have:=Qkl (Qaq l) o
 omega
theorem QkI {c t:Int} (h:Qk9 ⟨c,t⟩):∀ {l:List Lst},(∀ x∈l,Qk9 x)→∀ x∈Qdb c t l,Qk9 x
 | [],_,x,hx=>by simp [Qdb] at hx;subst hx;exact h
 | y :: l,hl,x,hx=>by
  have hy:=hl y (by simp)
  have hl':∀ x∈l,Qk9 x:=fun z hz=>hl z (by simp [hz])
  unfold Qdb at hx
  split at hx
  ·rcases List.mem_cons.1 hx with g|g
   ·subst g
    obtain ⟨h1,h2,h3⟩:=h
    obtain ⟨k1,k2,k3⟩:=hy
    dsimp only at h1 h2 h3
    exact ⟨h1,by show 0≤max y.tick t;omega,by show max y.tick t<_;omega⟩
   ·exact hl' x g
  ·split at hx
   ·rcases List.mem_cons.1 hx with g|g
    ·subst g;exact h
    ·exact hl x g
   ·rcases List.mem_cons.1 hx with g|g
    ·subst g;exact hy
    ·exact QkI h hl' x g
theorem Qqd {o:Opn} (h:QbH o):QiJ (QcB o):=by
 obtain ⟨h1,h2,h3,h4,h5,h6,h7⟩:=h
 have:=Qit h7
 exact ⟨h3,h4,h5,h2,h1,by show 0≤Qa6 o;unfold Qa6;omega,by show Qa6 o<_;unfold Qa6;omega⟩
theorem Qh5 {s:Sta} {o:Opn} (hs:QcT s) (ho:QbH o):QcT (QdU s o):=by
 obtain ⟨h1,h2,h3⟩:=hs
 refine ⟨?_,?_,?_⟩
 ·exact Qlq h1 _ ho.1.2.1 ho.1.2.2
 ·intro e he
  unfold QdU at he
  dsimp only at he
  split at he
  ·rcases QeH.1 he with g|g
   ·subst g;exact Qqd ho
   ·exact h2 e (List.mem_filter.1 g).1
  ·exact h2 e (List.mem_filter.1 he).1
 ·intro x hx
  exact QkI ⟨ho.2.2.1,ho.2.2.2.2.2.1⟩ h3 x hx
theorem QfA:QcT szero:=⟨QcG,(fun _ h=>by cases h),(fun _ h=>by cases h)⟩
theorem Qh7 {s:Sta} {o:Opn} (hs:QcT s) (ho:QbH o):QcT (QaE s o):=by
 unfold QaE;split
 ·exact Qh5 hs ho
 ·exact QfA
theorem Seq.ok {l:List Opn} (h:Seq l):QcT (Qaq l):=by
 induction h with
 | nil=>exact QfA
 | snoc h1 h2 h3 h4 h5 h6 ih=>rw [QdB];exact Qh5 ih h2
theorem Qod {l:List Opn} {s:Sta} {k:Nat} (h:Seq l) (hs:s=Qaq (l.take k)) (hk:k<l.length):Qcg s (gd l k)=0∧QaE s (gd l k)=Qaq (l.take (k+1)):=by subst hs;exact Qoi h hk
theorem Qrh {l:List Opn} {s:Sta} {k:Nat} (h:Seq l) (hs:s=Qaq (l.take k)):QcT s∧s.ents.length≤l.length∧s.ticks.length≤l.length:=by
 subst hs
 have:=Qjw (l.take k)
 rw [List.length_take] at this
 exact ⟨(h.take k).ok,by omega,by omega⟩
def QiH (l:List Opn) (i j:Nat):Bool:=QbC (gd l i).ctx (gd l j).dot&&!vle (gd l j).ctx (gd l i).ctx
def Qew (l:List Opn):Bool:=decide (l.length≤40)&&QbV l&&((List.range l.length).all fun k=>decide (QbE (QbB (l.take k)) (gd l k)=0))&&(List.range l.length).all fun i=>(List.range l.length).all fun j=>!QiH l i j
theorem QoI {l:List Opn} (h:40<l.length):Qew l=false:=by unfold Qew;rw [QQ4 (p:=l.length≤40) (by omega)];rfl
theorem Qil {l:List Opn} (h:QbV l=false):Qew l=false:=by unfold Qew;rw [h];simp
theorem Qkd {l:List Opn} {k:Nat} (hk:k<l.length) (h:¬QbE (QbB (l.take k)) (gd l k)=0):Qew l=false:=by
 rw [Bool.eq_false_iff]
 intro g
 unfold Qew at g
 simp only [Bool.and_eq_true,List.all_eq_true,List.mem_range,decide_eq_true_eq] at g
 exact h (g.1.2 k hk)
theorem Ql5 {l:List Opn} {i j:Nat} (hi:i<l.length) (hj:j<l.length) (h:QiH l i j=true):Qew l=false:=by
 rw [Bool.eq_false_iff]
 intro g
 unfold Qew at g
 simp only [Bool.and_eq_true,List.all_eq_true,List.mem_range,decide_eq_true_eq,Bool.not_eq_true'] at g
 rw [g.2 i hi j hj] at h;cases h
theorem QnS {l:List Opn} (h1:l.length≤40) (h2:QbV l=true) (h3:∀ k,k<l.length→QbE (QbB (l.take k)) (gd l k)=0) (h4:∀ i,i<l.length→∀ j,j<l.length→QiH l i j=false):Qew l=true:=by
 unfold Qew
 simp only [Bool.and_eq_true,List.all_eq_true,List.mem_range,decide_eq_true_eq,Bool.not_eq_true']
 exact ⟨⟨⟨h1,h2⟩,h3⟩,h4⟩
theorem Qoq {l:List Opn} (hl:∀ o∈l,QbH o) (h:Qew l=true):l.length≤40∧QbV l=true∧Seq l:=by
 unfold Qew at h
 simp only [Bool.and_eq_true,List.all_eq_true,List.mem_range,decide_eq_true_eq] at h
 exact ⟨h.1.1.1,h.1.1.2,QrB hl h.1.2⟩
theorem QjZ {l:List Opn} {k:Nat} {v:Vec} (h:v=QbB (l.take k)) (hk:k<l.length):vset v (gd l k).dot.rep.toNat (gd l k).dot.seq=QbB (l.take (k+1)):=by rw [Qbf hk,QdG,h]
end Go.Vx
namespace Go.Proofs
open Go Go.Vx Go.RowKit
namespace Tt
theorem Qtx (a b:Line):EqF Tryz.prog 2 74 (.agg (lc a).toArray) (.agg (lc b).toArray) (decide (a=b)):=by
 rw [← QnI]
 exact Qe0 (D:=1) Tryz.underlying74 Tryz.stoodInHeld74 (.cons (by decide) (Qbc ⟨Tryz.sizeOf31,Tryz.isAgg31⟩ rfl) (Qbc ⟨Tryz.sizeOf31,Tryz.isAgg31⟩ rfl) ((Qdp Tryz.runUnderlying31).up (by decide)) (.cons (by decide) (Qbc ⟨Tryz.sizeOf22,Tryz.isAgg22⟩ rfl) (Qbc ⟨Tryz.sizeOf22,Tryz.isAgg22⟩ rfl) ((Qdp Tryz.runUnderlying22).up (by decide)) .nil))
theorem Qub:En Tryz.prog 38:=Tryz.call38
theorem Qt9:En Tryz.prog 51:=Tryz.call51
theorem Qth:En Tryz.prog 7:=Tryz.call7
theorem Qum:En Tryz.prog 88:=Tryz.call88
theorem Qup:En Tryz.prog 89:=Tryz.call89
theorem QkO:FA Tryz.prog 64 0 0:=fun b o w=>by simp [Instr.fieldAt,Instr.sureAddr,fieldPlace,Qbp]
theorem Qbv:Ud Tryz.prog 50 (.slice 33):=Tryz.runUnderlying50
theorem QiD:Ud Tryz.prog 62 (.slice 74):=Tryz.runUnderlying62
theorem QaI:Ud Tryz.prog 68 (.slice 31):=Tryz.runUnderlying68
theorem QtQ:Tryz.prog.underlying 4=some (.bool):=Tryz.underlying4
theorem QrN:Tryz.prog.underlying 50=some (.slice 33):=Tryz.underlying50
end Tt
end Go.Proofs
namespace Go.Vx
def Qq4:Opn:=⟨⟨0,1⟩,1,3,4,2,5,vzero⟩
def Qq7:Opn:=⟨⟨0,2⟩,3,3,4,0,6,vset vzero 0 1⟩
def Qbd:Sta:=⟨vset vzero 0 1,[⟨3,4,2,1,⟨0,1⟩,1⟩],[⟨3,5⟩]⟩
def Qbj:Sta:=⟨vset (vset vzero 0 1) 0 2,[],[⟨3,6⟩]⟩
theorem Qmd:QbH Qq4:=by
 refine ⟨⟨⟨by decide,by decide⟩,by decide,by decide⟩,⟨by decide,by decide⟩,⟨by decide,by decide⟩,⟨by decide,by decide⟩,⟨by decide,by decide⟩,⟨by decide,by decide⟩,QcG⟩
theorem Qmb:QbH Qq7:=by
 refine ⟨⟨⟨by decide,by decide⟩,by decide,by decide⟩,⟨by decide,by decide⟩,⟨by decide,by decide⟩,⟨by decide,by decide⟩,⟨by decide,by decide⟩,⟨by decide,by decide⟩,Qlq QcG _ (by decide) (by decide)⟩
theorem Quy:Qcg (⟨vzero,[],[]⟩:Sta) Qq4=0:=by decide +kernel
theorem Quw:QaE (⟨vzero,[],[]⟩:Sta) Qq4=Qbd:=by
 unfold QaE;rw [if_pos Quy];rfl
theorem Quz:Qcg Qbd Qq7=0:=by decide +kernel
theorem QuB:QaE Qbd Qq7=Qbj:=by
 unfold QaE;rw [if_pos Quz];rfl
theorem QfW:QcT Qbd:=by rw [← Quw];exact Qh7 QfA Qmd
theorem QiW:QcT Qbj:=by rw [← QuB];exact Qh7 QfW Qmb
theorem QuD:Qct Qbd Qbj=0:=by decide +kernel
theorem QuM:(QaN Qbd Qbj).ents.length=0:=by
 unfold QaN;rw [if_pos QuD];decide +kernel
theorem QuH:Qfy Qbd 3 (QaO Qbd)=⟨3,[(⟨4,2⟩:Line)],false,5⟩:=by
 have h1:QaO Qbd=true:=by decide +kernel
 rw [h1]
 show Qgl Qbd 3=_
 unfold Qgl
 have h2:Qfv (Qds Qbd 3)=[4]:=by
  have h:=QdZ (Qds Qbd 3)
  refine Qee h.1 (List.pairwise_singleton _ _) fun x=>?_
  rw [h.2];rfl
 rw [h2];rfl
theorem QuQ:Qfy Qbj 3 (QaO Qbj)=⟨3,([]:List Line),false,6⟩:=by
 have h1:QaO Qbj=true:=by decide +kernel
 rw [h1]
 show Qgl Qbj 3=_
 unfold Qgl
 have h2:Qfv (Qds Qbj 3)=[]:=by
  have h:=QdZ (Qds Qbj 3)
  refine Qee h.1 List.Pairwise.nil fun x=>?_
  rw [h.2];rfl
 rw [h2];rfl
theorem Qjx {l:List Opn} (h:Seq l) (c:Int):Qfy (Qaq l) c (QaO (Qaq l))=Qa5 l c:=by
 rw [QbP.2 h.right];exact QgD h c
end Go.Vx
namespace Go.Proofs
open Go Go.Vx Go.RowKit
namespace Tt
theorem QrT:Bt Tryz.prog 24 [(0,1),(1,1),(2,1),(3,1),(4,1),(5,1),(6,1),(7,1),(8,1),(9,1),(10,1),(11,1),(12,1),(13,1),(14,1),(15,1)] (vc vzero):=Qnb Tryz.type24 rfl rfl Tryz.underlying24 Tryz.type22 rfl (k:=1) rfl
theorem Qrq:Bt Tryz.prog 30 [(0,1),(1,1)] (dc (⟨0,0⟩:Dot)):=QcP Tryz.type30 rfl rfl Tryz.underlying30 (by kernel_rfl)
theorem QoB:En Tryz.prog 20:=Tryz.call20
theorem QrV:En Tryz.prog 24:=Tryz.call24
theorem QqZ:FA Tryz.prog 74 1 1:=fun b o w=>by simp [Instr.fieldAt,Instr.sureAddr,fieldPlace,Qbp]
end Tt
end Go.Proofs
namespace Go.Vx
open Go.RowKit Go.ChangeShapes Go.WideShapes Go.ChangeAt
theorem Qtu {P:Program} {t td tv:TypeId} {f0 f1 f2 f3 f4 f5 f6:Field} (ht:P.underlying t=some (.struct #[f0,f1,f2,f3,f4,f5,f6]))
  (hoff:[f0.offset,f1.offset,f2.offset,f3.offset,f4.offset,f5.offset,f6.offset]=[0,2,3,4,5,6,7])
  (hty:[f0.type,f6.type]=[td,tv])
  (hD:Qgo P td dc Qc8) (hV:Qgo P tv vc Qca)
  (u1:P.underlying f1.type=some (.int .u8)) (u2:P.underlying f2.type=some (.int .u16)) (u3:P.underlying f3.type=some (.int .u16)) (u4:P.underlying f4.type=some (.int .u16)) (u5:P.underlying f5.type=some (.int .u32))
  (hc:[P.cellsOf f0.type,P.cellsOf f1.type,P.cellsOf f2.type,P.cellsOf f3.type,P.cellsOf f4.type,P.cellsOf f5.type,P.cellsOf f6.type]=[2,1,1,1,1,1,16]) (hct:P.cellsOf t=23):Qgo P t oc QbH:=by
 intro H enc w base spare held fuel cs x h
 obtain ⟨xs,m,_,_,hl,hxl,hx⟩:=DataW.trod_struct ht h
 rw [hct] at hl
 have g0:=hx 0 f0 rfl
 have g1:=hx 1 f1 rfl
 have g2:=hx 2 f2 rfl
 have g3:=hx 3 f3 rfl
 have g4:=hx 4 f4 rfl
 have g5:=hx 5 f5 rfl
 have g6:=hx 6 f6 rfl
 have hx2:xs.length=7:=by simpa using hxl
 simp only [List.cons.injEq,and_true] at hoff hty hc
 obtain ⟨o0,o1,o2,o3,o4,o5,o6⟩:=hoff
 obtain ⟨c0,c1,c2,c3,c4,c5,c6⟩:=hc
 obtain ⟨t0,t6⟩:=hty
 rw [List.getElem?_eq_getElem (by omega)] at g0 g1 g2 g3 g4 g5 g6
 rw [o0,c0,t0] at g0
 rw [o1,c1] at g1
 rw [o2,c2] at g2
 rw [o3,c3] at g3
 rw [o4,c4] at g4
 rw [o5,c5] at g5
 rw [o6,c6,t6] at g6
 obtain ⟨d,hd,e0⟩:=hD _ _ _ _ _ _ _ _ _ g0
 obtain ⟨k,hk,e1⟩:=QhQ u1 _ _ _ _ _ _ _ _ _ g1
 obtain ⟨c,hc',e2⟩:=QhQ u2 _ _ _ _ _ _ _ _ _ g2
 obtain ⟨i,hi,e3⟩:=QhQ u3 _ _ _ _ _ _ _ _ _ g3
 obtain ⟨q,hq,e4⟩:=QhQ u4 _ _ _ _ _ _ _ _ _ g4
 obtain ⟨tk,htk,e5⟩:=QhQ u5 _ _ _ _ _ _ _ _ _ g5
 obtain ⟨v,hv,e6⟩:=hV _ _ _ _ _ _ _ _ _ g6
 refine ⟨⟨d,k,c,i,q,tk,v⟩,⟨hd,Qpi hk,QiV hc',QiV hi,QiV hq,QiB htk,hv⟩,?_⟩
 match cs,hl with
 | x0 :: x1 :: x2 :: x3 :: x4 :: x5 :: x6 :: R,hR =>
  have e6':R=vc v:=by
   simp only [List.drop_succ_cons,List.drop_zero] at e6
   rw [List.take_of_length_le (by simp at hR;omega)] at e6;exact e6
  simp [ic,dc] at e0 e1 e2 e3 e4 e5
  rw [e0.1,e0.2,e1,e2,e3,e4,e5,e6']
  rfl
end Go.Vx
namespace Go.Vx
structure AnyP (s0 s1 s2 ab bc abc:Sta) (n:Nat):Prop where
 i01:Qct s0 s1=0
 r01:QaN s0 s1=ab
 i10:Qct s1 s0=0
 r10:QaN s1 s0=ab
 iab:Qct ab s2=0
 rab:QaN ab s2=abc
 i12:Qct s1 s2=0
 r12:QaN s1 s2=bc
 ibc:Qct s0 bc=0
 rbc:QaN s0 bc=abc
 i00:Qct s0 s0=0
 r00:QaN s0 s0=s0
 ok0:QcT s0∧s0.ents.length≤n∧s0.ticks.length≤n
 ok1:QcT s1∧s1.ents.length≤n∧s1.ticks.length≤n
 ok2:QcT s2∧s2.ents.length≤n∧s2.ticks.length≤n
 okab:QcT ab∧ab.ents.length≤n∧ab.ticks.length≤n
 okbc:QcT bc∧bc.ents.length≤n∧bc.ticks.length≤n
 okabc:abc.ents.length≤n∧abc.ticks.length≤n
end Go.Vx
namespace Go.Vx
def naE (e:Cen):Bool:=!decide (e.kind=1)
variable {s:Sta} {c n:Int} {k:Nat} {bi sm:Int}
end Go.Vx
namespace Go.Proofs
open Go Go.Vx Go.RowKit
namespace Tt
theorem QqT:En Tryz.prog 18:=Tryz.call18
theorem Qs4:En Tryz.prog 39:=Tryz.call39
theorem QuJ:En Tryz.prog 5:=Tryz.call5
end Tt
end Go.Proofs
namespace Go.Vx
open Go.RowKit Go.Shelf
theorem Own.drewN {w0 w:World} {M:Nat→Prop} {L:List Res} (h:Own w0 M w L) (n:Nat):Own w0 M (w.drewN n) L:=by
 obtain ⟨a,b,c,d,e,S,f,g,i,j⟩:=h
 exact ⟨a,⟨b.1,Nat.le_trans b.2 (Nat.le_add_right _ _)⟩,c,d,e,S,fun k R hk=>R.loc w _ _ (fun _ _=>rfl) (f k R hk),g,i,j⟩
theorem Qr0 {P:Program} {ρ:Ren} (L:Go.Proofs.SlLaysF0.n48 P ρ) (T:TypeId) (w:World) (S:Nat→Prop) (rb X:Nat) (hX:X<18446744073709551616) (hR:(blk rb [.int .u64 (X:Int)] T).holds w S) (hlt:∀ x,S x→x<w.heap.size) :
  Calls P (ρ.f 48) #[.pointer (some ⟨rb,0,none⟩)] w (fun e w'=>∃ _u:Unit,e = .returned (.int .u64 ((Sort.xorNextN X:Nat):Int))∧Own w S w' [blk rb [.int .u64 ((Sort.xorNextN X:Nat):Int)] T]∧True):=by
 have hs:=Own.lent hR hlt
 have hb:=hR.2
 refine (Go.Proofs.AnyF.xorshift_Next L rb 0 X hX w ?_ ?_).mono ?_
 ·rw [cell_of_row w rb 0 _ T _ hb];rfl
 ·exact frozen_of_row w rb 0 _ T hb
 ·rintro e w' ⟨he,rfl⟩
  refine ⟨(),he,?_,trivial⟩
  rw [setCell_eq_setRow w rb 0 _ T (0,0) _ hb]
  exact (hs.set_blk 0 rfl (cs':=[.int .u64 ((Sort.xorNextN X:Nat):Int)])).drewN 3
theorem QsO {P:Program} {ρ:Ren} (L:Go.Proofs.SlLaysF0.n47 P ρ) (w:World) (n:Nat) (hn:n<4611686018427387904) :
  Calls P (ρ.f 47) #[.int .i64 (n:Int)] w (fun e w'=>e = .returned (.int .u64 (((1 <<< Sort.bitsLen n:Nat):Nat):Int))∧Own w no w' []) :=
 (Go.Proofs.AnyF.nextPowerOfTwo L n hn w).mono fun e w' ⟨he,hw⟩=>by subst hw;exact ⟨he,Own.start _⟩
theorem QpW {a b:Nat} (ha:a<18446744073709551616) (hb:b<18446744073709551616):bits .and .u64 (a:Int) (b:Int)=((a &&& b:Nat):Int):=bits_and_u64_nat a b ha hb
def bpS (lo len md:Nat) (s0:UInt64 × Array Int) (i0:Nat):Nat→UInt64 × Array Int
 | 0=>s0
 | q+1=>Sort.breakStep lo len md (bpS lo len md s0 i0 q) (i0+q)
def Qgg (lo len md r:Nat):Nat:=if (Sort.xorNextN r &&& (md-1)) ≥ len then (Sort.xorNextN r &&& (md-1))-len else Sort.xorNextN r &&& (md-1)
theorem QjE {lo len md i0 q:Nat} {s0:UInt64 × Array Int}:((bpS lo len md s0 i0 (q+1)).1.toNat=Sort.xorNextN (bpS lo len md s0 i0 q).1.toNat)∧(bpS lo len md s0 i0 (q+1)).2=Sort.swp (bpS lo len md s0 i0 q).2 (i0+q) (lo+Qgg lo len md (bpS lo len md s0 i0 q).1.toNat):=by
 constructor
 ·show (Sort.xorNext _).toNat=_
  rw [Sort.xorNext_toNat]
 ·show Sort.swp _ _ _=_
  unfold Qgg
  rw [← Sort.xorNext_toNat]
theorem Qps {d:Array Int} {lo hi:Nat} (h:8≤hi-lo):(bpS lo (hi-lo) (1 <<< Sort.bitsLen (hi-lo)) (UInt64.ofNat (hi-lo),d) (lo+((hi-lo)/4)*2-1) 3).2=Sort.breakPatterns d lo hi:=by
 unfold Sort.breakPatterns
 dsimp only
 rw [if_pos h]
 rfl
theorem QsQ {n:Nat} (h:0<n):n<1 <<< Sort.bitsLen n∧1 <<< Sort.bitsLen n≤2*n:=by
 rw [Nat.one_shiftLeft];exact ⟨Sort.lt_two_pow_bitsLen n,Sort.two_pow_bitsLen_le h⟩
theorem Qm4 {lo len r:Nat} (h:0<len):Qgg lo len (1 <<< Sort.bitsLen len) r<len:=by
 have hm:=QsQ h
 have:=Nat.and_le_right (n:=Sort.xorNextN r) (m:=1 <<< Sort.bitsLen len-1)
 unfold Qgg;split<;>omega
end Go.Vx
namespace Go.Vx
open Go.RowKit Go.Shelf
def Qp5 (P:Program) (f T:Nat):Prop:=∀ (w:World) (S:Nat→Prop) (rb X:Nat),X<18446744073709551616→(blk rb [.int .u64 (X:Int)] T).holds w S→(∀ x,S x→x<w.heap.size) →
  Calls P f #[.pointer (some ⟨rb,0,none⟩)] w (fun e w'=>∃ _u:Unit,e = .returned (.int .u64 ((Sort.xorNextN X:Nat):Int))∧Own w S w' [blk rb [.int .u64 ((Sort.xorNextN X:Nat):Int)] T]∧True)
def Qqp (P:Program) (f:Nat):Prop:=∀ (w:World) (n:Nat),n<4611686018427387904→Calls P f #[.int .i64 (n:Int)] w (fun e w'=>e = .returned (.int .u64 (((1 <<< Sort.bitsLen n:Nat):Nat):Int))∧Own w no w' [])
def Qs6 (P:Program) (f:Nat):Prop:=∀ (w:World) (n:Nat),n<4611686018427387904→Calls P f #[.int .u64 (n:Int)] w (fun e w'=>e = .returned (.int .i64 ((Sort.bitsLen n:Nat):Int))∧Own w no w' [])
theorem QiY {lo len md i0 N:Nat} {s0:UInt64 × Array Int} (h:s0.2.size=N):∀ q,(bpS lo len md s0 i0 q).2.size=N
 | 0=>h
 | q+1=>by rw [QjE.2,Sort.size_swp];exact QiY h q
end Go.Vx
namespace Go.Vx
open Go.RowKit
def Qmr (P:Program) (f:Nat) (k:IntKind) (E:Nat):Prop:=∀ (w:World) (S:Nat→Prop) (a:Option Addr) (c:Nat) (l:List Int),(row (.slice a l.length c) (l.map (ic k)) E 1).holds w S→(∀ x,S x→x<w.heap.size)→l.length≤2305843009213693951 →
  Calls P f #[.slice a l.length c] w fun e w'=>e = .returned (.tuple #[])∧Own w S w' [row (.slice a l.length c) ((QbA l).map (ic k)) E 1]
end Go.Vx
namespace Go.Proofs
open Go Go.Vx Go.RowKit
namespace Tt
theorem QsZ:T1 Tryz.prog 175:=⟨Tryz.sizeOf175,Tryz.isAgg175⟩
theorem Qrl:En Tryz.prog 102:=Tryz.call102
theorem QmL:En Tryz.prog 115:=Tryz.call115
theorem QsV:En Tryz.prog 129:=Tryz.call129
theorem Qrx:En Tryz.prog 130:=Tryz.call130
theorem Qrn:En Tryz.prog 131:=Tryz.call131
theorem QsS:En Tryz.prog 132:=Tryz.call132
theorem QrU:En Tryz.prog 133:=Tryz.call133
theorem Qre:En Tryz.prog 134:=Tryz.call134
theorem Qc3:En Tryz.prog 135:=Tryz.call135
theorem Qsc:En Tryz.prog 136:=Tryz.call136
theorem Qsl:En Tryz.prog 137:=Tryz.call137
theorem Qq9:En Tryz.prog 139:=Tryz.call139
theorem Qr9:En Tryz.prog 140:=Tryz.call140
theorem Qo7:En Tryz.prog 145:=Tryz.call145
theorem QkG:En Tryz.prog 146:=Tryz.call146
theorem QmH:En Tryz.prog 147:=Tryz.call147
theorem Qlm:En Tryz.prog 149:=Tryz.call149
theorem Qtw:En Tryz.prog 98:=Tryz.call98
theorem Qrc:Ud Tryz.prog 175 (.int .u64):=Tryz.runUnderlying175
theorem QsX:Zv Tryz.prog 175 (.int .u64 0):=Tryz.zeroValue175
theorem QuP:Zv Tryz.prog 3 (.int .i64 0):=Tryz.zeroValue3
end Tt
end Go.Proofs
namespace Go.Vx
def opP (l:List Opn) (c n:Int) (o:Opn):Bool:=decide (o.cart=c)&&(decide (o.item=n)&&(!decide (o.kind=4)&&QaG l o))
def ofO (l:List Opn) (c n:Int) (k:Nat):List Cen:=((l.take k).filter (opP l c n)).map QcB
def QeT (l:List Opn) (c n:Int) (k:Nat) (bi:Int):Prop:=(bi = -1∧QdA ((ofO l c n k).filter naE)=none)∨∃ j:Nat,bi=(j:Int)∧j<k∧QdA ((ofO l c n k).filter naE)=some (QcB (gd l j))
section
variable {l:List Opn} {c n:Int} {k:Nat} {bi sm:Int}
theorem QkP (hk:k<l.length) (h:opP l c n (gd l k)=false):ofO l c n (k+1)=ofO l c n k:=by unfold ofO;rw [Qbf hk,List.filter_append];simp [h]
theorem Qhf (hk:k<l.length) (h:opP l c n (gd l k)=true):ofO l c n (k+1)=ofO l c n k++[QcB (gd l k)]:=by unfold ofO;rw [Qbf hk,List.filter_append];simp [h]
theorem Qlb (h:QeT l c n k bi) (hk:k≤l.length):-1≤bi∧bi<(l.length:Int):=by
 rcases h with ⟨h,_⟩|⟨j,h,h2,_⟩<;>rw [h]<;>omega
theorem QjP {k2:Nat} (h:QeT l c n k bi) (hk:k≤k2) (e:(ofO l c n k2).filter naE=(ofO l c n k).filter naE):QeT l c n k2 bi:=by
 rcases h with ⟨h1,h2⟩|⟨j,h1,h2,h3⟩
 ·exact .inl ⟨h1,by rw [e];exact h2⟩
 ·exact .inr ⟨j,h1,by omega,by rw [e];exact h3⟩
theorem Qgv (h:QeT l c n k bi) (hk:k<l.length) (hi:opP l c n (gd l k)=false):QeT l c n (k+1) bi:=QjP h (by omega) (by rw [QkP hk hi])
theorem QlB (h:QeT l c n k bi) (hk:k<l.length) (hi:opP l c n (gd l k)=true) (h1:(gd l k).kind=1):QeT l c n (k+1) bi:=QjP h (by omega) (by rw [Qhf hk hi,List.filter_append];simp [naE,QcB,h1])
theorem Qhq (hk:k<l.length) (hi:opP l c n (gd l k)=true) (h1:¬(gd l k).kind=1):(ofO l c n (k+1)).filter naE=(ofO l c n k).filter naE++[QcB (gd l k)]:=by
 rw [Qhf hk hi,List.filter_append];simp [naE,QcB,h1]
theorem QkA (h:QeT l c n k bi) (hk:k<l.length) (hi:opP l c n (gd l k)=true) (h1:¬(gd l k).kind=1) (ht:(decide (bi<0)||QcM (gd l bi.toNat) (gd l k))=true):QeT l c n (k+1) (k:Int):=by
 refine .inr ⟨k,rfl,by omega,?_⟩
 rw [Qhq hk hi h1,Qdw]
 rcases h with ⟨e,h2⟩|⟨j,e,h2,h3⟩
 ·rw [h2]
 ·rw [h3]
  dsimp only
  have:QcM (gd l j) (gd l k)=true:=by
   rw [e,Int.toNat_natCast,QQ4 (by omega)] at ht;simpa using ht
  rw [if_pos (by rw [QfL];exact this)]
theorem Qkq (h:QeT l c n k bi) (hk:k<l.length) (hi:opP l c n (gd l k)=true) (h1:¬(gd l k).kind=1) (ht:(decide (bi<0)||QcM (gd l bi.toNat) (gd l k))=false):QeT l c n (k+1) bi:=by
 rcases h with ⟨e,h2⟩|⟨j,e,h2,h3⟩
 ·rw [e] at ht;simp at ht
 ·refine .inr ⟨j,e,by omega,?_⟩
  rw [Qhq hk hi h1,Qdw,h3]
  dsimp only
  have:QcM (gd l j) (gd l k)=false:=by
   rw [e,Int.toNat_natCast,QQ4 (by omega)] at ht;simpa using ht
  rw [if_neg (by rw [QfL,this];decide)]
theorem QnK (h:sm=QeE (ofO l c n k)) (hk:k<l.length) (hi:opP l c n (gd l k)=true) (h1:(gd l k).kind=1):(sm+(gd l k).qty)%4294967296=QeE (ofO l c n (k+1)):=by
 rw [Qhf hk hi,Qd3,if_pos (show (QcB (gd l k)).kind=1 from h1),h];rfl
theorem Qmx (h:sm=QeE (ofO l c n k)) (hk:k<l.length) (hi:opP l c n (gd l k)=true) (h1:¬(gd l k).kind=1):sm=QeE (ofO l c n (k+1)):=by
 rw [Qhf hk hi,Qd3,if_neg (show ¬(QcB (gd l k)).kind=1 from h1),h]
theorem Qg7 (hk:¬k<l.length):ofO l c n k=ofO l c n l.length:=by unfold ofO;rw [List.take_of_length_le (by omega),List.take_length]
def QgT (l:List Opn) (c n:Int):Int:=QdQ (ofO l c n l.length)
theorem QmA (hs:sm=QeE (ofO l c n k)) (hb:QeT l c n k bi) (hk:¬k<l.length) (h:0≤bi):(sm+(gd l bi.toNat).qty)%4294967296=QgT l c n:=by
 rw [Qg7 hk] at hs
 rcases hb with ⟨e,_⟩|⟨j,e,_,h3⟩
 ·omega
 ·rw [Qg7 hk] at h3
  unfold QgT QdQ
  rw [show (ofO l c n l.length).filter (fun e=>!decide (e.kind=1))=(ofO l c n l.length).filter naE from rfl,h3,hs,e,Int.toNat_natCast];rfl
theorem Ql6 (hE:∀ o∈l,QbH o) (hs:sm=QeE (ofO l c n k)) (hb:QeT l c n k bi) (hk:¬k<l.length) (h:¬0≤bi):sm=QgT l c n:=by
 rw [Qg7 hk] at hs
 rcases hb with ⟨e,h3⟩|⟨j,e,_,_⟩
 ·rw [Qg7 hk] at h3
  unfold QgT QdQ
  rw [show (ofO l c n l.length).filter (fun e=>!decide (e.kind=1))=(ofO l c n l.length).filter naE from rfl,h3,hs]
  have:=QqQ (ofO l c n l.length) fun e he=>by
   obtain ⟨o,ho,rfl⟩:=List.mem_map.1 he
   exact (hE o (List.mem_of_mem_take (List.mem_filter.1 ho).1)).2.2.2.2.1.1
  simp only [Int.add_zero]
  exact (Int.emod_eq_of_lt this.1 this.2).symm
 ·omega
def Qpd (l:List Opn) (c:Int) (o:Opn):Bool:=decide (o.cart=c)&&(!decide (o.kind=4)&&QaG l o)
def Qdf (l:List Opn) (c:Int) (k:Nat):List Int:=((l.take k).filter (Qpd l c)).map (·.item)
theorem QmT {last nx:Int} (h:nx=Qb7 last (Qdf l c k)) (hk:k<l.length) (hh:Qpd l c (gd l k)=true) (h1:last<(gd l k).item) (h2:nx<0∨(gd l k).item<nx):(gd l k).item=Qb7 last (Qdf l c (k+1)):=by
 unfold Qdf Qb7 at *
 rw [Qbf hk,List.filter_append,List.map_append,List.foldl_append,← h]
 simp [hh,h1,h2]
theorem Qov {last nx:Int} (h:nx=Qb7 last (Qdf l c k)) (hk:k<l.length) (hn:¬(Qpd l c (gd l k)=true∧last<(gd l k).item∧(nx<0∨(gd l k).item<nx))):nx=Qb7 last (Qdf l c (k+1)):=by
 unfold Qdf Qb7 at *
 rw [Qbf hk,List.filter_append,List.map_append,List.foldl_append,← h]
 by_cases hh:Qpd l c (gd l k)=true
 ·have h2:¬(last<(gd l k).item∧(nx<0∨(gd l k).item<nx)):=fun g=>hn ⟨hh,g⟩
  simp only [List.filter_cons,hh,if_true,List.filter_nil,List.map_cons,List.map_nil,List.foldl_cons,List.foldl_nil]
  rw [if_neg h2]
 ·simp [hh]
def QdL (l:List Opn) (c last:Int):Int:=Qb7 last (Qdf l c l.length)
theorem Qme (hk:¬k<l.length):Qdf l c k=Qdf l c l.length:=by unfold Qdf;rw [List.take_of_length_le (by omega),List.take_length]
theorem QgU (hE:∀ o∈l,QbH o):∀ x∈Qdf l c k,0≤x∧x<65536:=fun x hx=>by
 obtain ⟨o,ho,rfl⟩:=List.mem_map.1 hx
 exact (hE o (List.mem_of_mem_take (List.mem_filter.1 ho).1)).2.2.2.1
theorem Qqf (hE:∀ o∈l,QbH o) {last:Int} (h0:-1≤last):-1≤QdL l c last∧QdL l c last<65536∧(¬QdL l c last<0→last<QdL l c last):=by
 have hb:=QgU (c:=c) (k:=l.length) hE
 unfold QdL
 rcases Qdu last h0 (Qdf l c l.length) fun x hx=>(hb x hx).1 with ⟨h,_⟩|⟨h1,h2,_⟩
 ·rw [h];exact ⟨by decide,by decide,fun g=>absurd (by decide) g⟩
 ·have:=hb _ h1;exact ⟨by omega,this.2,fun _=>h2⟩
def tkO (l:List Opn) (c:Int):Int:=(tmax l c).getD 0
theorem QsW (hk:k<l.length) (h:¬(gd l k).cart=c):tkO (l.take (k+1)) c=tkO (l.take k) c:=by unfold tkO;rw [Qbf hk,QeJ,if_neg h]
theorem QqF (hE:∀ o∈l,QbH o) (hk:k<l.length) (h:(gd l k).cart=c):tkO (l.take (k+1)) c=max (tkO (l.take k) c) (gd l k).tick:=by
 have ht:=(hE _ (Qbq hk)).2.2.2.2.2.1.1
 unfold tkO;rw [Qbf hk,QeJ,if_pos h]
 cases tmax (l.take k) c with
 | none=>show (gd l k).tick=max 0 (gd l k).tick;omega
 | some u=>rfl
def Qn0 (l:List Opn) (c:Int) (o:Opn):Bool:=decide (o.cart=c)&&(decide (o.kind=4)&&QaG l o)
def Qcm (l:List Opn) (c:Int):Vw:=⟨c,(Qfv (Qdf l c l.length)).map fun n=>⟨n,QgT l c n⟩,l.any (Qn0 l c),tkO l c⟩
end
theorem Qiu {l:List Opn} (h:Seq l) (c:Int):Qcm l c=Qgl (Qaq l) c:=by
 have he:=(h.ents).2
 have hmem:∀ n x,x∈ofO l c n l.length↔x∈QdM (Qaq l) c n:=fun n x=>by
  unfold ofO QdM opP
  rw [List.take_length,List.mem_map,List.mem_filter,he]
  constructor
  ·rintro ⟨o,ho,rfl⟩
   obtain ⟨h1,h2⟩:=List.mem_filter.1 ho
   simp only [Bool.and_eq_true,decide_eq_true_eq] at h2
   exact ⟨⟨o,h1,h2.2.2.2,rfl⟩,by show (decide (o.cart=c)&&(decide (o.item=n)&&!decide (o.kind=4)))=true;rw [QQ3 h2.1,QQ3 h2.2.1,h2.2.2.1];rfl⟩
  ·rintro ⟨⟨o,h1,h2,rfl⟩,h3⟩
   have h3':(decide (o.cart=c)&&(decide (o.item=n)&&!decide (o.kind=4)))=true:=h3
   simp only [Bool.and_eq_true,decide_eq_true_eq] at h3'
   exact ⟨o,List.mem_filter.2 ⟨h1,by rw [QQ3 h3'.1,QQ3 h3'.2.1,h3'.2.2,h2];rfl⟩,rfl⟩
 have hnd:∀ n,((ofO l c n l.length).map (·.dot)).Nodup:=fun n=>by
  unfold ofO
  rw [List.take_length,List.map_map]
  exact (h.nodup).sublist ((List.filter_sublist).map _)
 have hq:∀ n,QgT l c n=QdQ (QdM (Qaq l) c n):=fun n=>Qg2 (hnd n) (h.right.nd.sublist (List.filter_sublist.map _)) (hmem n)
 have hI:Qfv (Qdf l c l.length)=Qfv (Qds (Qaq l) c):=by
  have h1:=QdZ (Qdf l c l.length)
  have h2:=QdZ (Qds (Qaq l) c)
  refine Qee h1.1 h2.1 fun x=>?_
  rw [h1.2,h2.2]
  unfold Qdf Qds Qpd
  rw [List.take_length,List.mem_map,List.mem_map]
  constructor
  ·rintro ⟨o,ho,rfl⟩
   obtain ⟨g1,g2⟩:=List.mem_filter.1 ho
   simp only [Bool.and_eq_true,decide_eq_true_eq] at g2
   exact ⟨QcB o,List.mem_filter.2 ⟨(he _).2 ⟨o,g1,g2.2.2,rfl⟩,by show (decide (o.cart=c)&&!decide (o.kind=4))=true;rw [QQ3 g2.1,g2.2.1];rfl⟩,rfl⟩
  ·rintro ⟨e,he2,rfl⟩
   obtain ⟨g1,g2⟩:=List.mem_filter.1 he2
   obtain ⟨o,k1,k2,rfl⟩:=(he _).1 g1
   have g2':(decide (o.cart=c)&&!decide (o.kind=4))=true:=g2
   simp only [Bool.and_eq_true,decide_eq_true_eq] at g2'
   exact ⟨o,List.mem_filter.2 ⟨k1,by rw [QQ3 g2'.1,g2'.2,k2];rfl⟩,rfl⟩
 have ho:l.any (Qn0 l c)=(Qaq l).ents.any fun e=>decide (e.cart=c)&&decide (e.kind=4):=by
  rw [Bool.eq_iff_iff,List.any_eq_true,List.any_eq_true]
  unfold Qn0
  constructor
  ·rintro ⟨o,g1,g2⟩
   simp only [Bool.and_eq_true,decide_eq_true_eq] at g2
   exact ⟨QcB o,(he _).2 ⟨o,g1,g2.2.2,rfl⟩,by show (decide (o.cart=c)&&decide (o.kind=4))=true;rw [QQ3 g2.1,QQ3 g2.2.1];rfl⟩
  ·rintro ⟨e,g1,g2⟩
   obtain ⟨o,k1,k2,rfl⟩:=(he _).1 g1
   have g2':(decide (o.cart=c)&&decide (o.kind=4))=true:=g2
   simp only [Bool.and_eq_true,decide_eq_true_eq] at g2'
   exact ⟨o,k1,by rw [QQ3 g2'.1,QQ3 g2'.2,k2];rfl⟩
 have ht:tkO l c=(QaV (Qaq l).ticks c).getD 0:=by unfold tkO;rw [(Qco l).2]
 unfold Qcm Qgl
 rw [hI,ho,ht]
 congr 1
 refine List.map_congr_left fun n _=>?_
 rw [hq]
end Go.Vx
namespace Go.Proofs
open Go Go.Vx Go.RowKit
namespace Tt
theorem QrQ:T1 Tryz.prog 108:=⟨Tryz.sizeOf108,Tryz.isAgg108⟩
theorem Qp1:T1 Tryz.prog 68:=⟨Tryz.sizeOf68,Tryz.isAgg68⟩
theorem Qen:TA Tryz.prog 111 25:=⟨Tryz.sizeOf111,Tryz.isAgg111⟩
theorem Qry:En Tryz.prog 113:=Tryz.call113
theorem Qrd:En Tryz.prog 114:=Tryz.call114
theorem QtT:En Tryz.prog 59:=Tryz.call59
theorem Qur:En Tryz.prog 60:=Tryz.call60
theorem Qto:En Tryz.prog 61:=Tryz.call61
theorem Qut:En Tryz.prog 62:=Tryz.call62
theorem Qt1:En Tryz.prog 93:=Tryz.call93
theorem Qt8:En Tryz.prog 94:=Tryz.call94
theorem Qta:En Tryz.prog 95:=Tryz.call95
theorem Qus:En Tryz.prog 96:=Tryz.call96
theorem QtI:En Tryz.prog 97:=Tryz.call97
theorem Qug:En Tryz.prog 99:=Tryz.call99
theorem Qg3:FA Tryz.prog 111 0 0:=fun b o w=>by simp [Instr.fieldAt,Instr.sureAddr,fieldPlace,Qbp]
theorem Qhe:FA Tryz.prog 111 1 1:=fun b o w=>by simp [Instr.fieldAt,Instr.sureAddr,fieldPlace,Qbp]
theorem Qjy:FA Tryz.prog 111 2 24:=fun b o w=>by simp [Instr.fieldAt,Instr.sureAddr,fieldPlace,Qbp]
theorem Qqj:KeyOk Tryz.prog 31 (Value.int .u16):=QkL Tryz.runUnderlying31 _
theorem QiZ:Ud Tryz.prog 108 (.map 31 111):=Tryz.runUnderlying108
theorem QjO:Zv Tryz.prog 111 (.agg (talc (⟨0,(⟨(⟨0,0⟩:Dot),0,0,0,0,0,vzero⟩:Opn),false⟩:Tal)).toArray):=Tryz.zeroValue111
end Tt
end Go.Proofs
namespace Go.Vx
theorem QqW {l:List Opn} {o:Opn} {k:Nat} (hk:k<l.length) (h:Qay (gd l k) o=true):QaG l o=false:=by
 unfold QaG
 have:(l.any fun x=>Qay x o)=true:=List.any_eq_true.2 ⟨_,Qbq hk,h⟩
 rw [this];simp
theorem Qob {l:List Opn} {o:Opn} (h:∀ j:Nat,j<l.length→Qay (gd l j) o=false):QaG l o=QaF o:=by
 unfold QaG
 have:(l.any fun x=>Qay x o)=false:=by
  rw [List.any_eq_false]
  intro x hx
  obtain ⟨j,hj,rfl⟩:=QeV hx
  rw [h j hj];decide
 rw [this];simp
theorem Qqh (e:Cen) (o:Opn):(((((decide (e.dot=o.dot)&&decide (e.kind=o.kind))&&decide (e.cart=o.cart))&&decide (e.item=o.item))&&decide (e.qty=o.qty))&&decide (e.count=Qa6 o))=decide (e=QcB o):=by
 rw [Bool.eq_iff_iff]
 simp only [Bool.and_eq_true,decide_eq_true_eq]
 constructor
 ·rintro ⟨⟨⟨⟨⟨a,b⟩,c⟩,d⟩,f⟩,g⟩
  cases e;simp only at a b c d f g;subst a b c d f g;rfl
 ·rintro rfl;exact ⟨⟨⟨⟨⟨rfl,rfl⟩,rfl⟩,rfl⟩,rfl⟩,rfl⟩
theorem Qj0 {l:List Opn} (h:Seq l) {k:Nat} (hk:k<l.length) (hl:QaG l (gd l k)=true):((Qaq l).ents.any fun e=>decide (e=QcB (gd l k)))=true :=
 List.any_eq_true.2 ⟨QcB (gd l k),(h.ents.2 _).2 ⟨_,Qbq hk,hl,rfl⟩,by simp⟩
theorem QjX {l:List Opn} (h:Seq l):(l.filter (QaG l)).length=(Qaq l).ents.length:=by
 have h1:((l.filter (QaG l)).map QcB).Perm (Qaq l).ents:=by
  refine (List.perm_ext_iff_of_nodup ?_ ?_).2 fun x=>?_
  ·have hn:(((l.filter (QaG l)).map QcB).map (·.dot)).Nodup:=by
    rw [List.map_map];exact h.nodup.sublist (List.filter_sublist.map _)
   exact (List.Pairwise.of_map _ (fun a b hab e=>hab (congrArg _ e)) hn)
  ·exact (List.Pairwise.of_map _ (fun a b hab e=>hab (congrArg _ e)) h.right.nd)
  ·rw [h.ents.2,List.mem_map]
   constructor
   ·rintro ⟨o,ho,rfl⟩;exact ⟨o,(List.mem_filter.1 ho).1,(List.mem_filter.1 ho).2,rfl⟩
   ·rintro ⟨o,h1,h2,rfl⟩;exact ⟨o,List.mem_filter.2 ⟨h1,h2⟩,rfl⟩
 have:=h1.length_eq
 rwa [QQ6] at this
theorem Qkp {ts:List Lst} {c:Int}:(QaV ts c).isSome=true↔c∈ts.map (·.cart):=by
 induction ts with
 | nil=>simp [QaV]
 | cons x l ih =>
  rw [Qea,List.map_cons,List.mem_cons]
  split
  ·rename_i h;simp [h]
  ·rename_i h;rw [ih];constructor
   ·exact .inr
   ·rintro (e|e)
    ·exact absurd e.symm h
    ·exact e
theorem QjF {l:List Opn} {k:Nat} {cn:Nat} (h:cn=((l.take k).filter (QaG l)).length) (hk:k<l.length):(QaG l (gd l k)=true→cn+1=((l.take (k+1)).filter (QaG l)).length)∧(QaG l (gd l k)=false→cn=((l.take (k+1)).filter (QaG l)).length):=by
 rw [Qbf hk,List.filter_append,QQ7,← h]
 constructor<;>intro g<;>simp [g]
theorem gdm {α β:Type} [Inhabited α] [Inhabited β] (f:α→β) {l:List α} {k:Nat} (hk:k<l.length):gd (l.map f) k=f (gd l k):=by simp [gd,hk]
theorem Qmq {l:List Opn} (h:Seq l):QcV (Qaq l)=Qdv l:=by
 have ht:=Qco l
 unfold QcV
 rw [if_pos (QbP.2 h.right)]
 have hp:((Qaq l).ticks.map (·.cart)).Pairwise (· < ·):=List.pairwise_map.2 ht.1
 refine Qee hp QeF fun x=>?_
 rw [Qgx,← Qkp,ht.2]
 rcases Qdy l x with ⟨h1,h2⟩|⟨t,h1,⟨o,ho,hc,_⟩,_⟩
 ·rw [h1]
  constructor
  ·intro g;cases g
  ·intro g
   obtain ⟨o,ho,e⟩:=List.mem_map.1 g
   exact absurd e (h2 o ho)
 ·rw [h1]
  exact ⟨fun _=>List.mem_map.2 ⟨o,ho,hc⟩,fun _=>rfl⟩
end Go.Vx
namespace Go.Proofs
open Go Go.Vx Go.RowKit
namespace Tt
theorem Qrz:El Tryz.prog 56 4 1 1:=⟨Tryz.underlying56,_,_,Tryz.type4,rfl,rfl,rfl,rfl,by decide⟩
theorem Qnx:En Tryz.prog 54:=Tryz.call54
end Tt
end Go.Proofs
namespace Go.Vx
theorem QkR {cs:List Int} {last:Int} {I:List Int} (h:UpTo cs last I) (h0:-1≤last) (hc:∀ x∈cs,0≤x) (hn:Qb7 last cs<0):I=Qfv cs:=by
 have ho:=QdZ cs
 refine Qee h.inc ho.1 fun x=>?_
 rw [h.mem,ho.2]
 rcases Qdu last h0 _ hc with ⟨_,h2⟩|⟨h1,_,_⟩
 ·exact ⟨fun g=>g.1,fun g=>⟨g,h2 x g⟩⟩
 ·have:=hc _ h1;omega
theorem Qss {l:List Opn} {c:Int} {o:Opn} (h1:o.cart=c) (h2:¬o.kind=4) (h3:QaG l o=true):Qpd l c o=true:=by unfold Qpd;rw [QQ3 h1,QQ4 h2,h3];rfl
theorem Qpv {l:List Opn} {c n:Int} {o:Opn} (h1:o.cart=c) (h2:o.item=n) (h3:QaG l o=true) (h4:¬o.kind=4):opP l c n o=true:=by unfold opP;rw [QQ3 h1,QQ3 h2,QQ4 h4,h3];rfl
theorem Qqc {l:List Opn} {c n:Int} {o:Opn} (h3:QaG l o=true) (h1:¬o.kind=1) (h2:¬o.kind=2):opP l c n o=false:=by
 unfold QaG at h3
 have h4:=QbQ h3
 unfold QaF at h4
 rw [QQ4 h1,QQ4 h2] at h4
 unfold opP
 have:decide (o.kind=4)=true:=by simpa using h4
 rw [this];simp
theorem QqH {l:List Opn} {c n:Int} {o:Opn} (h:((!decide (o.cart=c)||!decide (o.item=n))||!QaG l o)=true):opP l c n o=false:=by
 unfold opP
 revert h
 cases decide (o.cart=c)<;>cases decide (o.item=n)<;>cases QaG l o<;>simp
def QoJ (l:List Opn) (c n:Int):Line:=⟨n,QgT l c n⟩
theorem Qj3 {l:List Opn} {c i:Int} {I:List Int} {o:List Line} (h:o=I.map (QoJ l c)):o++[⟨i,QgT l c i⟩]=(I++[i]).map (QoJ l c):=by rw [List.map_append,← h];rfl
theorem Qn2 {l:List Opn} {c last nx:Int} {I:List Int} {ol:List Line} {k:Nat} {ou:Bool} {tk:Int} (hE:∀ o∈l,QbH o) (hk:¬k<l.length) (hou:ou=(l.take k).any (Qn0 l c)) (htk:tk=tkO (l.take k) c) (hup:UpTo (Qdf l c l.length) last I) (h0:-1≤last) (hnx:nx=QdL l c last) (hn:¬0≤nx) (hol:ol=I.map (QoJ l c)):Qcm l c=⟨c,ol,ou,tk⟩:=by
 rw [List.take_of_length_le (by omega)] at hou htk
 unfold Qcm
 rw [hou,htk,hol,QkR hup h0 (fun x hx=>(QgU hE x hx).1) (by unfold QdL at hnx;omega)];rfl
theorem Qj8 {l:List Opn} {c last:Int} {I:List Int} (hE:∀ o∈l,QbH o) (hup:UpTo (Qdf l c l.length) last I) (h0:-1≤last) (hn:0≤QdL l c last):UpTo (Qdf l c l.length) (QdL l c last) (I++[QdL l c last]) :=
 Qia hup h0 (fun x hx=>(QgU hE x hx).1) (by unfold QdL at hn;omega)
theorem QkY {l:List Opn} (h:Seq l) (c:Int):Qcm l c=Qa5 l c:=by rw [Qiu h,QgD h]
end Go.Vx
namespace Go.Proofs
open Go Go.Vx Go.RowKit
namespace Tt
theorem Qsu:En Tryz.prog 100:=Tryz.call100
theorem QsA:En Tryz.prog 63:=Tryz.call63
theorem QtW:En Tryz.prog 64:=Tryz.call64
end Tt
end Go.Proofs
namespace Go.Proofs
open Go Go.Vx Go.RowKit
namespace Tt
theorem Qt4:En Tryz.prog 14:=Tryz.call14
theorem QtG:En Tryz.prog 15:=Tryz.call15
theorem Quu:En Tryz.prog 17:=Tryz.call17
theorem Qsd:En Tryz.prog 19:=Tryz.call19
theorem QtN:En Tryz.prog 21:=Tryz.call21
theorem QtZ:En Tryz.prog 22:=Tryz.call22
theorem Qt2:En Tryz.prog 23:=Tryz.call23
theorem QtE:En Tryz.prog 25:=Tryz.call25
theorem QrL:Ud Tryz.prog 56 (.slice 4):=Tryz.runUnderlying56
end Tt
end Go.Proofs
namespace Go.Proofs
open Go Go.Vx Go.RowKit
namespace Tt
theorem Qel (w:World) (x:Int):Calls Tryz.prog 104 #[.int .u8 x] w (fun e w'=>e = .returned (.bool false)∧Own w no w' []):=by
 refine Qai (n:=6) Tryz.func104 rfl Tryz.ntmps104 rfl ?_
 have hs:=Own.start w
 refine Qag (Qab (Qaa (Qad (V:=.bool false) rfl (Qae (Qag (Qab (Qaa (Qac (V:=.int .u8 x) rfl (Qaa (Qac (V:=.int .u8 x) rfl (Qaa (Qcr rfl rfl (Qaa (Qad (V:=.bool (!decide (x=x))) rfl (Qae (Qas ?_))))))))))))))))
 refine ⟨_,Qao (V:=.bool (!decide (x=x))) Tryz.results104 rfl,?_⟩
 refine ⟨congrArg Ending.returned ?_,hs.take 0⟩
 simp
theorem QdT (w:World) (x y:Int):Calls Tryz.prog 76 #[.int .u8 x,.int .u8 y] w (fun e w'=>e = .returned (.int .i64 (QaW x y))∧Own w no w' []):=by
 refine Qai (n:=20) Tryz.func76 rfl Tryz.ntmps76 rfl ?_
 have hs:=Own.start w
 refine Qag (Qab (Qaa (Qad (V:=I6 0) rfl (Qae (Qag (Qab (Qaa (Qac (V:=.int .u8 x) rfl (Qaa (Qar (vs:=[.int .u8 x]) (V:=.bool false) Qpa rfl rfl ?hc hs fun w1 hs=>?_))))))))))
 case hc=>exact (Qel _ x)
 refine Qaa (Qad (V:=.bool false) rfl (Qae (Qag (Qab (Qaa (Qac (V:=.int .u8 y) rfl (Qaa (Qar (vs:=[.int .u8 y]) (V:=.bool false) Qpa rfl rfl ?hc hs fun w2 hs=>?_))))))))
 case hc=>exact (Qel _ y)
 refine Qaa (Qad (V:=.bool false) rfl (Qae (Qag (Qag (Qab (Qaa (Qac (V:=.bool false) rfl (Qae (Qb3 rfl ?_)))))))))
 refine Qan (Qag (Qag (Qab (Qaa (Qac (V:=.bool false) rfl (Qae (Qb3 rfl ?_)))))))
 refine Qan (Qag (Qag (Qab (Qaa (Qac (V:=.int .u8 x) rfl (Qaa (Qac (V:=.int .u8 y) rfl (Qaa (QaP rfl rfl (Qae (Qal (t:=decide (x<y)) rfl (fun c3=>?_) (fun c3=>?_))))))))))))
 ·
  replace c3:=QQ1 c3
  refine Qag (Qab (Qaa (Qad (V:=I6 (-1)) rfl (Qae (Qas ?_)))))
  refine ⟨_,Qao (V:=I6 (-1)) Tryz.results76 rfl,?_⟩
  refine ⟨congrArg Ending.returned ?_,hs.take 0⟩
  rw [QcQ,if_pos c3]
 ·
  replace c3:=QQ2 c3
  refine Qan (Qag (Qag (Qab (Qaa (Qac (V:=.int .u8 x) rfl (Qaa (Qac (V:=.int .u8 y) rfl (Qaa (Qcb rfl rfl (Qae (Qal (t:=decide (y<x)) rfl (fun c4=>?_) (fun c4=>?_))))))))))))
  ·
   replace c4:=QQ1 c4
   refine Qag (Qab (Qaa (Qad (V:=I6 1) rfl (Qae (Qas ?_)))))
   refine ⟨_,Qao (V:=I6 1) Tryz.results76 rfl,?_⟩
   refine ⟨congrArg Ending.returned ?_,hs.take 0⟩
   rw [QcQ,if_neg c3,if_pos c4]
  ·
   replace c4:=QQ2 c4
   refine Qan (Qag (Qab (Qaa (Qad (V:=I6 0) rfl (Qae (Qas ?_))))))
   refine ⟨_,Qao (V:=I6 0) Tryz.results76 rfl,?_⟩
   refine ⟨congrArg Ending.returned ?_,hs.take 0⟩
   rw [QcQ,if_neg c3,if_neg c4]
theorem Qd6 (w:World) (x:Int):Calls Tryz.prog 91 #[.int .u16 x] w (fun e w'=>e = .returned (.bool false)∧Own w no w' []):=by
 refine Qai (n:=6) Tryz.func91 rfl Tryz.ntmps91 rfl ?_
 have hs:=Own.start w
 refine Qag (Qab (Qaa (Qad (V:=.bool false) rfl (Qae (Qag (Qab (Qaa (Qac (V:=I7 x) rfl (Qaa (Qac (V:=I7 x) rfl (Qaa (Qcr rfl rfl (Qaa (Qad (V:=.bool (!decide (x=x))) rfl (Qae (Qas ?_))))))))))))))))
 refine ⟨_,Qao (V:=.bool (!decide (x=x))) Tryz.results91 rfl,?_⟩
 refine ⟨congrArg Ending.returned ?_,hs.take 0⟩
 simp
theorem QdE (w:World) (x y:Int):Calls Tryz.prog 57 #[.int .u16 x,.int .u16 y] w (fun e w'=>e = .returned (.int .i64 (QaW x y))∧Own w no w' []):=by
 refine Qai (n:=20) Tryz.func57 rfl Tryz.ntmps57 rfl ?_
 have hs:=Own.start w
 refine Qag (Qab (Qaa (Qad (V:=I6 0) rfl (Qae (Qag (Qab (Qaa (Qac (V:=I7 x) rfl (Qaa (Qar (vs:=[I7 x]) (V:=.bool false) QqG rfl rfl ?hc hs fun w1 hs=>?_))))))))))
 case hc=>exact (Qd6 _ x)
 refine Qaa (Qad (V:=.bool false) rfl (Qae (Qag (Qab (Qaa (Qac (V:=I7 y) rfl (Qaa (Qar (vs:=[I7 y]) (V:=.bool false) QqG rfl rfl ?hc hs fun w2 hs=>?_))))))))
 case hc=>exact (Qd6 _ y)
 refine Qaa (Qad (V:=.bool false) rfl (Qae (Qag (Qag (Qab (Qaa (Qac (V:=.bool false) rfl (Qae (Qb3 rfl ?_)))))))))
 refine Qan (Qag (Qag (Qab (Qaa (Qac (V:=.bool false) rfl (Qae (Qb3 rfl ?_)))))))
 refine Qan (Qag (Qag (Qab (Qaa (Qac (V:=I7 x) rfl (Qaa (Qac (V:=I7 y) rfl (Qaa (QaP rfl rfl (Qae (Qal (t:=decide (x<y)) rfl (fun c3=>?_) (fun c3=>?_))))))))))))
 ·
  replace c3:=QQ1 c3
  refine Qag (Qab (Qaa (Qad (V:=I6 (-1)) rfl (Qae (Qas ?_)))))
  refine ⟨_,Qao (V:=I6 (-1)) Tryz.results57 rfl,?_⟩
  refine ⟨congrArg Ending.returned ?_,hs.take 0⟩
  rw [QcQ,if_pos c3]
 ·
  replace c3:=QQ2 c3
  refine Qan (Qag (Qag (Qab (Qaa (Qac (V:=I7 x) rfl (Qaa (Qac (V:=I7 y) rfl (Qaa (Qcb rfl rfl (Qae (Qal (t:=decide (y<x)) rfl (fun c4=>?_) (fun c4=>?_))))))))))))
  ·
   replace c4:=QQ1 c4
   refine Qag (Qab (Qaa (Qad (V:=I6 1) rfl (Qae (Qas ?_)))))
   refine ⟨_,Qao (V:=I6 1) Tryz.results57 rfl,?_⟩
   refine ⟨congrArg Ending.returned ?_,hs.take 0⟩
   rw [QcQ,if_neg c3,if_pos c4]
  ·
   replace c4:=QQ2 c4
   refine Qan (Qag (Qab (Qaa (Qad (V:=I6 0) rfl (Qae (Qas ?_))))))
   refine ⟨_,Qao (V:=I6 0) Tryz.results57 rfl,?_⟩
   refine ⟨congrArg Ending.returned ?_,hs.take 0⟩
   rw [QcQ,if_neg c3,if_neg c4]
theorem Qd4 (w:World) (x:Int):Calls Tryz.prog 105 #[.int .u32 x] w (fun e w'=>e = .returned (.bool false)∧Own w no w' []):=by
 refine Qai (n:=6) Tryz.func105 rfl Tryz.ntmps105 rfl ?_
 have hs:=Own.start w
 refine Qag (Qab (Qaa (Qad (V:=.bool false) rfl (Qae (Qag (Qab (Qaa (Qac (V:=.int .u32 x) rfl (Qaa (Qac (V:=.int .u32 x) rfl (Qaa (Qcr rfl rfl (Qaa (Qad (V:=.bool (!decide (x=x))) rfl (Qae (Qas ?_))))))))))))))))
 refine ⟨_,Qao (V:=.bool (!decide (x=x))) Tryz.results105 rfl,?_⟩
 refine ⟨congrArg Ending.returned ?_,hs.take 0⟩
 simp
theorem QdH (w:World) (x y:Int):Calls Tryz.prog 77 #[.int .u32 x,.int .u32 y] w (fun e w'=>e = .returned (.int .i64 (QaW x y))∧Own w no w' []):=by
 refine Qai (n:=20) Tryz.func77 rfl Tryz.ntmps77 rfl ?_
 have hs:=Own.start w
 refine Qag (Qab (Qaa (Qad (V:=I6 0) rfl (Qae (Qag (Qab (Qaa (Qac (V:=.int .u32 x) rfl (Qaa (Qar (vs:=[.int .u32 x]) (V:=.bool false) Qo0 rfl rfl ?hc hs fun w1 hs=>?_))))))))))
 case hc=>exact (Qd4 _ x)
 refine Qaa (Qad (V:=.bool false) rfl (Qae (Qag (Qab (Qaa (Qac (V:=.int .u32 y) rfl (Qaa (Qar (vs:=[.int .u32 y]) (V:=.bool false) Qo0 rfl rfl ?hc hs fun w2 hs=>?_))))))))
 case hc=>exact (Qd4 _ y)
 refine Qaa (Qad (V:=.bool false) rfl (Qae (Qag (Qag (Qab (Qaa (Qac (V:=.bool false) rfl (Qae (Qb3 rfl ?_)))))))))
 refine Qan (Qag (Qag (Qab (Qaa (Qac (V:=.bool false) rfl (Qae (Qb3 rfl ?_)))))))
 refine Qan (Qag (Qag (Qab (Qaa (Qac (V:=.int .u32 x) rfl (Qaa (Qac (V:=.int .u32 y) rfl (Qaa (QaP rfl rfl (Qae (Qal (t:=decide (x<y)) rfl (fun c3=>?_) (fun c3=>?_))))))))))))
 ·
  replace c3:=QQ1 c3
  refine Qag (Qab (Qaa (Qad (V:=I6 (-1)) rfl (Qae (Qas ?_)))))
  refine ⟨_,Qao (V:=I6 (-1)) Tryz.results77 rfl,?_⟩
  refine ⟨congrArg Ending.returned ?_,hs.take 0⟩
  rw [QcQ,if_pos c3]
 ·
  replace c3:=QQ2 c3
  refine Qan (Qag (Qag (Qab (Qaa (Qac (V:=.int .u32 x) rfl (Qaa (Qac (V:=.int .u32 y) rfl (Qaa (Qcb rfl rfl (Qae (Qal (t:=decide (y<x)) rfl (fun c4=>?_) (fun c4=>?_))))))))))))
  ·
   replace c4:=QQ1 c4
   refine Qag (Qab (Qaa (Qad (V:=I6 1) rfl (Qae (Qas ?_)))))
   refine ⟨_,Qao (V:=I6 1) Tryz.results77 rfl,?_⟩
   refine ⟨congrArg Ending.returned ?_,hs.take 0⟩
   rw [QcQ,if_neg c3,if_pos c4]
  ·
   replace c4:=QQ2 c4
   refine Qan (Qag (Qab (Qaa (Qad (V:=I6 0) rfl (Qae (Qas ?_))))))
   refine ⟨_,Qao (V:=I6 0) Tryz.results77 rfl,?_⟩
   refine ⟨congrArg Ending.returned ?_,hs.take 0⟩
   rw [QcQ,if_neg c3,if_neg c4]
theorem QdS (w:World) (x:Int):Calls Tryz.prog 128 #[.int .u64 x] w (fun e w'=>e = .returned (.bool false)∧Own w no w' []):=by
 refine Qai (n:=6) Tryz.func128 rfl Tryz.ntmps128 rfl ?_
 have hs:=Own.start w
 refine Qag (Qab (Qaa (Qad (V:=.bool false) rfl (Qae (Qag (Qab (Qaa (Qac (V:=.int .u64 x) rfl (Qaa (Qac (V:=.int .u64 x) rfl (Qaa (Qcr rfl rfl (Qaa (Qad (V:=.bool (!decide (x=x))) rfl (Qae (Qas ?_))))))))))))))))
 refine ⟨_,Qao (V:=.bool (!decide (x=x))) Tryz.results128 rfl,?_⟩
 refine ⟨congrArg Ending.returned ?_,hs.take 0⟩
 simp
theorem QeP (w:World) (x y:Int):Calls Tryz.prog 112 #[.int .u64 x,.int .u64 y] w (fun e w'=>e = .returned (.int .i64 (QaW x y))∧Own w no w' []):=by
 refine Qai (n:=20) Tryz.func112 rfl Tryz.ntmps112 rfl ?_
 have hs:=Own.start w
 refine Qag (Qab (Qaa (Qad (V:=I6 0) rfl (Qae (Qag (Qab (Qaa (Qac (V:=.int .u64 x) rfl (Qaa (Qar (vs:=[.int .u64 x]) (V:=.bool false) QoW rfl rfl ?hc hs fun w1 hs=>?_))))))))))
 case hc=>exact (QdS _ x)
 refine Qaa (Qad (V:=.bool false) rfl (Qae (Qag (Qab (Qaa (Qac (V:=.int .u64 y) rfl (Qaa (Qar (vs:=[.int .u64 y]) (V:=.bool false) QoW rfl rfl ?hc hs fun w2 hs=>?_))))))))
 case hc=>exact (QdS _ y)
 refine Qaa (Qad (V:=.bool false) rfl (Qae (Qag (Qag (Qab (Qaa (Qac (V:=.bool false) rfl (Qae (Qb3 rfl ?_)))))))))
 refine Qan (Qag (Qag (Qab (Qaa (Qac (V:=.bool false) rfl (Qae (Qb3 rfl ?_)))))))
 refine Qan (Qag (Qag (Qab (Qaa (Qac (V:=.int .u64 x) rfl (Qaa (Qac (V:=.int .u64 y) rfl (Qaa (QaP rfl rfl (Qae (Qal (t:=decide (x<y)) rfl (fun c3=>?_) (fun c3=>?_))))))))))))
 ·
  replace c3:=QQ1 c3
  refine Qag (Qab (Qaa (Qad (V:=I6 (-1)) rfl (Qae (Qas ?_)))))
  refine ⟨_,Qao (V:=I6 (-1)) Tryz.results112 rfl,?_⟩
  refine ⟨congrArg Ending.returned ?_,hs.take 0⟩
  rw [QcQ,if_pos c3]
 ·
  replace c3:=QQ2 c3
  refine Qan (Qag (Qag (Qab (Qaa (Qac (V:=.int .u64 x) rfl (Qaa (Qac (V:=.int .u64 y) rfl (Qaa (Qcb rfl rfl (Qae (Qal (t:=decide (y<x)) rfl (fun c4=>?_) (fun c4=>?_))))))))))))
  ·
   replace c4:=QQ1 c4
   refine Qag (Qab (Qaa (Qad (V:=I6 1) rfl (Qae (Qas ?_)))))
   refine ⟨_,Qao (V:=I6 1) Tryz.results112 rfl,?_⟩
   refine ⟨congrArg Ending.returned ?_,hs.take 0⟩
   rw [QcQ,if_neg c3,if_pos c4]
  ·
   replace c4:=QQ2 c4
   refine Qan (Qag (Qab (Qaa (Qad (V:=I6 0) rfl (Qae (Qas ?_))))))
   refine ⟨_,Qao (V:=I6 0) Tryz.results112 rfl,?_⟩
   refine ⟨congrArg Ending.returned ?_,hs.take 0⟩
   rw [QcQ,if_neg c3,if_neg c4]
theorem Qqk (w:World) (a:Option Addr) (c:Nat) (l:List Int) (hr:Rd w (.slice a l.length c) 1 (l.map (ic .i64))):Calls Tryz.prog 75 #[.slice a l.length c] w (fun e w'=>e = .returned (.int .i64 (orI l))∧Own w no w' []):=by
 refine Qai (n:=18) Tryz.func75 rfl Tryz.ntmps75 rfl ?_
 have hs:=Own.start w
 have hn:=hr.sml
 refine Qag (Qab (Qaa (Qad (V:=I6 0) rfl (Qae (Qag (Qab (Qaa (Qad (V:=I6 0) rfl (Qae (Qag (Qag (Qab (Qaa (Qac (V:=.slice a l.length c) rfl (Qaa (QaX (n:=l.length) QoT (Rd.own' hr hs) (by simp) rfl (Qaa (Qac (V:=I6 0) rfl (Qae (Qak (Qax (fun ρ μ ρ' w'=>∃ (ρo:Env) (k:Nat),ρ'=upd (mix [2,5,8,9,10,11,12,13,14,15,16] ρo ρ) 8 (I6 (k:Int))∧(k≤l.length)∧(∀ j:Nat,j<k→gd l j=0)∧μ=l.length-k∧Own w no w' []) ?_ ?_)))))))))))))))))))))
 ·exact ⟨_,_,0,Qah (Qam (ds:=[2,5,8,9,10,11,12,13,14,15,16]) (Agr.refl _ _)) rfl,(by omega),(fun j hj=>absurd hj (Nat.not_lt_zero j)),rfl,hs⟩
 ·rintro μ ρ' w1 ⟨ρo,k,rfl,hk,h0,rfl,hs⟩
  refine Qag (Qab (Qaa (QaP rfl rfl (Qae (Qag (Qal (t:=decide ((k:Int)<((l.length:Nat):Int))) rfl (fun c2=>?_) (fun c2=>?_)))))))
  ·
   replace c2:=QQ1 c2
   refine Qan (Qag (Qak (Qag (Qab (Qaa (Qat QoT Qql.1 (Rd.own' hr hs) rfl rfl (by omega) (by rw [QQ6];omega) (Qaa (QaQ (j:=0) (V:=I6 (gd l k)) k Qql (Rd.own' hr hs) (QaY (by omega)) rfl rfl (by omega) (Qaa (Qad (V:=I6 (gd l k)) rfl (Qae (Qag (Qab (Qaa (Qac (V:=I6 (gd l k)) rfl (Qaa (Qac (V:=I6 0) rfl (Qaa (Qcr rfl rfl (Qae (Qal (t:=!decide (gd l k=0)) rfl (fun c3=>?_) (fun c3=>?_))))))))))))))))))))))
   ·
    replace c3:=QbL c3
    replace c3:=QQ2 c3
    refine Qag (Qab (Qaa (Qac (V:=I6 (gd l k)) rfl (Qaa (Qad (V:=I6 (gd l k)) rfl (Qae (Qas ?_)))))))
    refine ⟨_,Qao (V:=I6 (gd l k)) Tryz.results75 rfl,?_⟩
    refine ⟨congrArg Ending.returned ?_,hs.take 0⟩
    exact congrArg (Value.int IntKind.i64) (Qpu (by omega) h0 c3).symm
   ·
    replace c3:=Qbr c3
    replace c3:=QQ1 c3
    refine Qan (Qab (Qaa (Qav (a:=(k:Int)) (b:=1) (c:=(k:Int)+1) rfl rfl (Qbh (by omega) (by omega)) (Qaa (Qac (V:=I6 ((k:Int)+1)) rfl (Qae ?_))))))
    refine ⟨_,?_,_,k+1,Qah (Qam (ds:=[2,5,8,9,10,11,12,13,14,15,16]) (by repeat (first|exact Agr.refl _ _|refine Agr.upd ?_ rfl|refine Agr.mix ?_ rfl))) rfl,(by omega),(QqP h0 c3),rfl,hs.take 0⟩
    omega
  ·
   replace c2:=QQ2 c2
   refine Qaz (Qag (Qab (Qaa (Qac (V:=I6 0) rfl (Qaa (Qad (V:=I6 0) rfl (Qae (Qas ?_))))))))
   refine ⟨_,Qao (V:=I6 0) Tryz.results75 rfl,?_⟩
   refine ⟨congrArg Ending.returned ?_,hs.take 0⟩
   exact congrArg (Value.int IntKind.i64) (Qrs fun j hj=>h0 j (by omega)).symm
end Tt
end Go.Proofs
namespace Go.Proofs
open Go Go.Vx Go.RowKit
namespace Tt
theorem QqE (w:World) (d:Dot):Calls Tryz.prog 84 #[.agg (dc d).toArray] w (fun e w'=>e = .returned (.bool (Qbs d))∧Own w no w' []):=by
 refine Qai (n:=16) Tryz.func84 rfl Tryz.ntmps84 rfl ?_
 have hs:=Own.start w
 refine Qag (Qab (Qaa (Qa9 (V:=.agg (dc d).toArray) (cs:=dc d) rfl rfl hs fun b1 w2 hs=>(Qaa (Qad (V:=.bool false) rfl (Qae (Qag (Qbi [some 3,some 4,some 5,some 6,some 7,some 8,some 9,some 10,some 11,some 12,some 13,some 14,some 15,some 2] [] [0,1,3,7,15,31,63,127,255,511,1023,2047,4095,8191] [pv (Pt b1 (0+0)),pv (.int .u8 d.rep),pv (.bool (decide (d.rep<16))),pv (.bool (decide (d.rep<16))),pg ((decide (d.rep<16)) == true) (Pt b1 (0+1)),pg ((decide (d.rep<16)) == true) (.int .u32 d.seq),pg ((decide (d.rep<16)) == true) (.bool (decide (1≤d.seq))),pv (.bool ((decide (d.rep<16))&&(decide (1≤d.seq)))),pv (.bool ((decide (d.rep<16))&&(decide (1≤d.seq)))),pg (((decide (d.rep<16))&&(decide (1≤d.seq))) == true) (Pt b1 (0+1)),pg (((decide (d.rep<16))&&(decide (1≤d.seq))) == true) (.int .u32 d.seq),pg (((decide (d.rep<16))&&(decide (1≤d.seq))) == true) (.bool (decide (d.seq≤1048576))),pv (.bool (((decide (d.rep<16))&&(decide (1≤d.seq)))&&(decide (d.seq≤1048576)))),pv (.bool (((decide (d.rep<16))&&(decide (1≤d.seq)))&&(decide (d.seq≤1048576))))] (fun _ _=>_) [13] (by kernel_rfl) hs ⟨?_,?_,?_,?_,?_,?_,?_,?_,?_,?_,?_,?_,?_,?_,trivial⟩ ?_))))))))
 ·exact ob [] [] rfl rfl fun D ρ w hs=>Qaf QbK rfl ⟨rfl,hs⟩
 ·exact ob [0] [] rfl rfl fun D ρ w hs=>QaK (V:=.int .u8 d.rep) QcF hs 0 rfl rfl rfl ⟨rfl,hs⟩
 ·exact ob [1] [] rfl rfl fun D ρ w hs=>QaP rfl rfl ⟨rfl,hs⟩
 ·exact ob [2] [] rfl rfl fun D ρ w hs=>Qac (V:=.bool (decide (d.rep<16))) rfl ⟨rfl,hs⟩
 ·exact obg [3] [] (decide (d.rep<16)) rfl (fun _=>rfl) rfl (fun _ _ _ _ h=>h) fun D ρ w hG hs=>Qaf QbN rfl ⟨rfl,hs⟩
 ·exact obgy [3,4] [] [4] (decide (d.rep<16)) rfl (fun _=>rfl) rfl (fun _ _ _ _ h=>h) (fun hG=>⟨hG,trivial⟩) fun D ρ w hG hs=>QaK (V:=.int .u32 d.seq) Qa7 hs 0 rfl rfl rfl ⟨rfl,hs⟩
 ·exact obgy [3,5] [] [5] (decide (d.rep<16)) rfl (fun _=>rfl) rfl (fun _ _ _ _ h=>h) (fun hG=>⟨hG,trivial⟩) fun D ρ w hG hs=>QcN rfl rfl ⟨rfl,hs⟩
 ·exact ob [3,6] [] rfl rfl fun D ρ w hs=>Qa3 (h':=decide (1≤d.seq)) rfl rfl rfl ⟨rfl,hs⟩
 ·exact ob [7] [] rfl rfl fun D ρ w hs=>Qac (V:=.bool ((decide (d.rep<16))&&(decide (1≤d.seq)))) rfl ⟨rfl,hs⟩
 ·exact obg [8] [] ((decide (d.rep<16))&&(decide (1≤d.seq))) rfl (fun _=>rfl) rfl (fun _ _ _ _ h=>h) fun D ρ w hG hs=>Qaf QbN rfl ⟨rfl,hs⟩
 ·exact obgy [8,9] [] [9] ((decide (d.rep<16))&&(decide (1≤d.seq))) rfl (fun _=>rfl) rfl (fun _ _ _ _ h=>h) (fun hG=>⟨hG,trivial⟩) fun D ρ w hG hs=>QaK (V:=.int .u32 d.seq) Qa7 hs 0 rfl rfl rfl ⟨rfl,hs⟩
 ·exact obgy [8,10] [] [10] ((decide (d.rep<16))&&(decide (1≤d.seq))) rfl (fun _=>rfl) rfl (fun _ _ _ _ h=>h) (fun hG=>⟨hG,trivial⟩) fun D ρ w hG hs=>Qd9 rfl rfl ⟨rfl,hs⟩
 ·exact ob [8,11] [] rfl rfl fun D ρ w hs=>Qa3 (h':=decide (d.seq≤1048576)) rfl rfl rfl ⟨rfl,hs⟩
 ·exact ob [12] [] rfl rfl fun D ρ w hs=>Qad (V:=.bool (((decide (d.rep<16))&&(decide (1≤d.seq)))&&(decide (d.seq≤1048576)))) rfl ⟨rfl,hs⟩
 rintro ρ1 w3 ρ2 hρ hs
 replace hρ:ρ2=upd (mix [3,4,5,6,7,8,9,10,11,12,13,14,15,2] ρ1 _) 2 (.bool (((decide (d.rep<16))&&(decide (1≤d.seq)))&&(decide (d.seq≤1048576)))):=hρ
 subst hρ
 refine Qas ?_
 refine ⟨_,Qao (V:=.bool (((decide (d.rep<16))&&(decide (1≤d.seq)))&&(decide (d.seq≤1048576)))) Tryz.results84 rfl,?_⟩
 refine ⟨congrArg Ending.returned ?_,hs.take 0⟩
 rfl
theorem Qii (w:World) (d:Dot):Calls Tryz.prog 87 #[.agg (dc d).toArray] w (fun e w'=>e = .returned (.bool (Qbs d))∧Own w no w' []):=by
 refine Qai (n:=16) Tryz.func87 rfl Tryz.ntmps87 rfl ?_
 have hs:=Own.start w
 refine Qag (Qab (Qaa (Qa9 (V:=.agg (dc d).toArray) (cs:=dc d) rfl rfl hs fun b1 w2 hs=>(Qaa (Qad (V:=.bool false) rfl (Qae (Qag (Qbi [some 3,some 4,some 5,some 6,some 7,some 8,some 9,some 10,some 11,some 12,some 13,some 14,some 15,some 2] [] [0,1,3,7,15,31,63,127,255,511,1023,2047,4095,8191] [pv (Pt b1 (0+0)),pv (.int .u8 d.rep),pv (.bool (decide (d.rep<16))),pv (.bool (decide (d.rep<16))),pg ((decide (d.rep<16)) == true) (Pt b1 (0+1)),pg ((decide (d.rep<16)) == true) (.int .u32 d.seq),pg ((decide (d.rep<16)) == true) (.bool (decide (1≤d.seq))),pv (.bool ((decide (d.rep<16))&&(decide (1≤d.seq)))),pv (.bool ((decide (d.rep<16))&&(decide (1≤d.seq)))),pg (((decide (d.rep<16))&&(decide (1≤d.seq))) == true) (Pt b1 (0+1)),pg (((decide (d.rep<16))&&(decide (1≤d.seq))) == true) (.int .u32 d.seq),pg (((decide (d.rep<16))&&(decide (1≤d.seq))) == true) (.bool (decide (d.seq≤1048576))),pv (.bool (((decide (d.rep<16))&&(decide (1≤d.seq)))&&(decide (d.seq≤1048576)))),pv (.bool (((decide (d.rep<16))&&(decide (1≤d.seq)))&&(decide (d.seq≤1048576))))] (fun _ _=>_) [13] (by kernel_rfl) hs ⟨?_,?_,?_,?_,?_,?_,?_,?_,?_,?_,?_,?_,?_,?_,trivial⟩ ?_))))))))
 ·exact ob [] [] rfl rfl fun D ρ w hs=>Qaf QbK rfl ⟨rfl,hs⟩
 ·exact ob [0] [] rfl rfl fun D ρ w hs=>QaK (V:=.int .u8 d.rep) QcF hs 0 rfl rfl rfl ⟨rfl,hs⟩
 ·exact ob [1] [] rfl rfl fun D ρ w hs=>QaP rfl rfl ⟨rfl,hs⟩
 ·exact ob [2] [] rfl rfl fun D ρ w hs=>Qac (V:=.bool (decide (d.rep<16))) rfl ⟨rfl,hs⟩
 ·exact obg [3] [] (decide (d.rep<16)) rfl (fun _=>rfl) rfl (fun _ _ _ _ h=>h) fun D ρ w hG hs=>Qaf QbN rfl ⟨rfl,hs⟩
 ·exact obgy [3,4] [] [4] (decide (d.rep<16)) rfl (fun _=>rfl) rfl (fun _ _ _ _ h=>h) (fun hG=>⟨hG,trivial⟩) fun D ρ w hG hs=>QaK (V:=.int .u32 d.seq) Qa7 hs 0 rfl rfl rfl ⟨rfl,hs⟩
 ·exact obgy [3,5] [] [5] (decide (d.rep<16)) rfl (fun _=>rfl) rfl (fun _ _ _ _ h=>h) (fun hG=>⟨hG,trivial⟩) fun D ρ w hG hs=>QcN rfl rfl ⟨rfl,hs⟩
 ·exact ob [3,6] [] rfl rfl fun D ρ w hs=>Qa3 (h':=decide (1≤d.seq)) rfl rfl rfl ⟨rfl,hs⟩
 ·exact ob [7] [] rfl rfl fun D ρ w hs=>Qac (V:=.bool ((decide (d.rep<16))&&(decide (1≤d.seq)))) rfl ⟨rfl,hs⟩
 ·exact obg [8] [] ((decide (d.rep<16))&&(decide (1≤d.seq))) rfl (fun _=>rfl) rfl (fun _ _ _ _ h=>h) fun D ρ w hG hs=>Qaf QbN rfl ⟨rfl,hs⟩
 ·exact obgy [8,9] [] [9] ((decide (d.rep<16))&&(decide (1≤d.seq))) rfl (fun _=>rfl) rfl (fun _ _ _ _ h=>h) (fun hG=>⟨hG,trivial⟩) fun D ρ w hG hs=>QaK (V:=.int .u32 d.seq) Qa7 hs 0 rfl rfl rfl ⟨rfl,hs⟩
 ·exact obgy [8,10] [] [10] ((decide (d.rep<16))&&(decide (1≤d.seq))) rfl (fun _=>rfl) rfl (fun _ _ _ _ h=>h) (fun hG=>⟨hG,trivial⟩) fun D ρ w hG hs=>Qd9 rfl rfl ⟨rfl,hs⟩
 ·exact ob [8,11] [] rfl rfl fun D ρ w hs=>Qa3 (h':=decide (d.seq≤1048576)) rfl rfl rfl ⟨rfl,hs⟩
 ·exact ob [12] [] rfl rfl fun D ρ w hs=>Qad (V:=.bool (((decide (d.rep<16))&&(decide (1≤d.seq)))&&(decide (d.seq≤1048576)))) rfl ⟨rfl,hs⟩
 rintro ρ1 w3 ρ2 hρ hs
 replace hρ:ρ2=upd (mix [3,4,5,6,7,8,9,10,11,12,13,14,15,2] ρ1 _) 2 (.bool (((decide (d.rep<16))&&(decide (1≤d.seq)))&&(decide (d.seq≤1048576)))):=hρ
 subst hρ
 refine Qas ?_
 refine ⟨_,Qao (V:=.bool (((decide (d.rep<16))&&(decide (1≤d.seq)))&&(decide (d.seq≤1048576)))) Tryz.results87 rfl,?_⟩
 refine ⟨congrArg Ending.returned ?_,hs.take 0⟩
 rfl
theorem Qgf (w:World) (v:Vec) (d:Dot) (hd:Qc8 d):Calls Tryz.prog 47 #[.agg (vc v).toArray,.agg (dc d).toArray] w (fun e w'=>e = .returned (.bool (QbC v d))∧Own w no w' []):=by
 refine Qai (n:=16) Tryz.func47 rfl Tryz.ntmps47 rfl ?_
 have hs:=Own.start w
 have ⟨⟨hd1,hd2⟩,hd3,hd4⟩:=hd
 refine Qag (Qab (Qaa (Qa9 (V:=.agg (vc v).toArray) (cs:=vc v) rfl rfl hs fun b1 w2 hs=>(Qaa (Qa9 (V:=.agg (dc d).toArray) (cs:=dc d) rfl rfl hs fun b3 w4 hs=>(Qaa (Qad (V:=.bool false) rfl (Qae (Qag (QaC HM [some 5,some 6,some 7,some 8,some 9,some 10,some 11,some 12,some 13,some 14,some 15,some 4] [] [0,1,3,7,15,7,39,103,231,511,1023,2047] [pv (.agg (dc d).toArray),pv (.bool (Qbs d)),pv (.bool (Qbs d)),pg ((Qbs d) == true) (Pt b3 (0+1)),pg ((Qbs d) == true) (.int .u32 d.seq),pg ((Qbs d) == true) (Pt b3 (0+0)),pg ((Qbs d) == true) (.int .u8 d.rep),pg ((Qbs d) == true) (.pointer (some ⟨b1,0+d.rep.toNat,none⟩)),pg ((Qbs d) == true) (.int .u32 (vat v d.rep.toNat)),pg ((Qbs d) == true) (.bool (decide (d.seq≤vat v d.rep.toNat))),pv (.bool ((Qbs d)&&(decide (d.seq≤vat v d.rep.toNat)))),pv (.bool ((Qbs d)&&(decide (d.seq≤vat v d.rep.toNat))))] (fun _ _=>_) [11] (by kernel_rfl) hs ⟨?_,?_,?_,?_,?_,?_,?_,?_,?_,?_,?_,?_,trivial⟩ ?_))))))))))
 ·exact ob [] [] rfl rfl fun D ρ w hs=>QaR (cs:=dc d) Qcv hs 1 rfl rfl rfl ⟨rfl,hs⟩
 ·exact ob [0] [] rfl rfl fun D ρ w hs=>Qar (vs:=[.agg (dc d).toArray]) (V:=.bool (Qbs d)) Quk rfl rfl (QqE _ d) hs fun _ hs=>⟨rfl,hs⟩
 ·exact ob [1] [] rfl rfl fun D ρ w hs=>Qac (V:=.bool (Qbs d)) rfl ⟨rfl,hs⟩
 ·refine obg [2] [] (Qbs d) rfl (fun _=>rfl) rfl (fun _ _ _ _ h=>h) fun D ρ w hG hs=>?_
  have hb:=QaL (eq_of_beq hG)
  exact Qaf QbN rfl ⟨rfl,hs⟩
 ·refine obgy [2,3] [] [3] (Qbs d) rfl (fun _=>rfl) rfl (fun _ _ _ _ h=>h) (fun hG=>⟨hG,trivial⟩) fun D ρ w hG hs=>?_
  have hb:=QaL (eq_of_beq hG)
  exact QaK (V:=.int .u32 d.seq) Qa7 hs 1 rfl rfl rfl ⟨rfl,hs⟩
 ·refine obg [2] [] (Qbs d) rfl (fun _=>rfl) rfl (fun _ _ _ _ h=>h) fun D ρ w hG hs=>?_
  have hb:=QaL (eq_of_beq hG)
  exact Qaf QbK rfl ⟨rfl,hs⟩
 ·refine obgy [2,5] [] [5] (Qbs d) rfl (fun _=>rfl) rfl (fun _ _ _ _ h=>h) (fun hG=>⟨hG,trivial⟩) fun D ρ w hG hs=>?_
  have hb:=QaL (eq_of_beq hG)
  exact QaK (V:=.int .u8 d.rep) QcF hs 1 rfl rfl rfl ⟨rfl,hs⟩
 ·refine obgy [2,6] [] [6] (Qbs d) rfl (fun _=>rfl) rfl (fun _ _ _ _ h=>h) (fun hG=>⟨hG,trivial⟩) fun D ρ w hG hs=>?_
  have hb:=QaL (eq_of_beq hG)
  exact QbZ Qd5 Qa7.1 rfl rfl (by omega) (by omega) ⟨rfl,hs⟩
 ·refine obgy [2,7] [] [7] (Qbs d) rfl (fun _=>rfl) rfl (fun _ _ _ _ h=>h) (fun hG=>⟨hG,trivial⟩) fun D ρ w hG hs=>?_
  have hb:=QaL (eq_of_beq hG)
  exact QaK (V:=.int .u32 (vat v d.rep.toNat)) Qa7 hs 0 rfl rfl (Qfk (by omega) (by omega)) ⟨rfl,hs⟩
 ·refine obgy [2,4,8] [] [4,8] (Qbs d) rfl (fun _=>rfl) rfl (fun _ _ _ _ h=>h) (fun hG=>⟨hG,hG,trivial⟩) fun D ρ w hG hs=>?_
  have hb:=QaL (eq_of_beq hG)
  exact Qd9 rfl rfl ⟨rfl,hs⟩
 ·exact ob [2,9] [] rfl rfl fun D ρ w hs=>Qa3 (h':=decide (d.seq≤vat v d.rep.toNat)) rfl rfl rfl ⟨rfl,hs⟩
 ·exact ob [10] [] rfl rfl fun D ρ w hs=>Qad (V:=.bool ((Qbs d)&&(decide (d.seq≤vat v d.rep.toNat)))) rfl ⟨rfl,hs⟩
 rintro ρ1 w6 ρ2 hρ hs
 replace hρ:ρ2=upd (mix [5,6,7,8,9,10,11,12,13,14,15,4] ρ1 _) 4 (.bool ((Qbs d)&&(decide (d.seq≤vat v d.rep.toNat)))):=hρ
 subst hρ
 refine Qas ?_
 refine ⟨_,Qao (V:=.bool ((Qbs d)&&(decide (d.seq≤vat v d.rep.toNat)))) Tryz.results47 rfl,?_⟩
 refine ⟨congrArg Ending.returned ?_,hs.take 0⟩
 rfl
theorem QgZ (w:World) (v:Vec) (d:Dot) (hd:Qc8 d):Calls Tryz.prog 52 #[.agg (vc v).toArray,.agg (dc d).toArray] w (fun e w'=>e = .returned (.bool (QbC v d))∧Own w no w' []):=by
 refine Qai (n:=16) Tryz.func52 rfl Tryz.ntmps52 rfl ?_
 have hs:=Own.start w
 have ⟨⟨hd1,hd2⟩,hd3,hd4⟩:=hd
 refine Qag (Qab (Qaa (Qa9 (V:=.agg (vc v).toArray) (cs:=vc v) rfl rfl hs fun b1 w2 hs=>(Qaa (Qa9 (V:=.agg (dc d).toArray) (cs:=dc d) rfl rfl hs fun b3 w4 hs=>(Qaa (Qad (V:=.bool false) rfl (Qae (Qag (QaC HM [some 5,some 6,some 7,some 8,some 9,some 10,some 11,some 12,some 13,some 14,some 15,some 4] [] [0,1,3,7,15,7,39,103,231,511,1023,2047] [pv (.agg (dc d).toArray),pv (.bool (Qbs d)),pv (.bool (Qbs d)),pg ((Qbs d) == true) (Pt b3 (0+1)),pg ((Qbs d) == true) (.int .u32 d.seq),pg ((Qbs d) == true) (Pt b3 (0+0)),pg ((Qbs d) == true) (.int .u8 d.rep),pg ((Qbs d) == true) (.pointer (some ⟨b1,0+d.rep.toNat,none⟩)),pg ((Qbs d) == true) (.int .u32 (vat v d.rep.toNat)),pg ((Qbs d) == true) (.bool (decide (d.seq≤vat v d.rep.toNat))),pv (.bool ((Qbs d)&&(decide (d.seq≤vat v d.rep.toNat)))),pv (.bool ((Qbs d)&&(decide (d.seq≤vat v d.rep.toNat))))] (fun _ _=>_) [11] (by kernel_rfl) hs ⟨?_,?_,?_,?_,?_,?_,?_,?_,?_,?_,?_,?_,trivial⟩ ?_))))))))))
 ·exact ob [] [] rfl rfl fun D ρ w hs=>QaR (cs:=dc d) Qcv hs 1 rfl rfl rfl ⟨rfl,hs⟩
 ·exact ob [0] [] rfl rfl fun D ρ w hs=>Qar (vs:=[.agg (dc d).toArray]) (V:=.bool (Qbs d)) Qqq rfl rfl (Qii _ d) hs fun _ hs=>⟨rfl,hs⟩
 ·exact ob [1] [] rfl rfl fun D ρ w hs=>Qac (V:=.bool (Qbs d)) rfl ⟨rfl,hs⟩
 ·refine obg [2] [] (Qbs d) rfl (fun _=>rfl) rfl (fun _ _ _ _ h=>h) fun D ρ w hG hs=>?_
  have hb:=QaL (eq_of_beq hG)
  exact Qaf QbN rfl ⟨rfl,hs⟩
 ·refine obgy [2,3] [] [3] (Qbs d) rfl (fun _=>rfl) rfl (fun _ _ _ _ h=>h) (fun hG=>⟨hG,trivial⟩) fun D ρ w hG hs=>?_
  have hb:=QaL (eq_of_beq hG)
  exact QaK (V:=.int .u32 d.seq) Qa7 hs 1 rfl rfl rfl ⟨rfl,hs⟩
 ·refine obg [2] [] (Qbs d) rfl (fun _=>rfl) rfl (fun _ _ _ _ h=>h) fun D ρ w hG hs=>?_
  have hb:=QaL (eq_of_beq hG)
  exact Qaf QbK rfl ⟨rfl,hs⟩
 ·refine obgy [2,5] [] [5] (Qbs d) rfl (fun _=>rfl) rfl (fun _ _ _ _ h=>h) (fun hG=>⟨hG,trivial⟩) fun D ρ w hG hs=>?_
  have hb:=QaL (eq_of_beq hG)
  exact QaK (V:=.int .u8 d.rep) QcF hs 1 rfl rfl rfl ⟨rfl,hs⟩
 ·refine obgy [2,6] [] [6] (Qbs d) rfl (fun _=>rfl) rfl (fun _ _ _ _ h=>h) (fun hG=>⟨hG,trivial⟩) fun D ρ w hG hs=>?_
  have hb:=QaL (eq_of_beq hG)
  exact QbZ Qd5 Qa7.1 rfl rfl (by omega) (by omega) ⟨rfl,hs⟩
 ·refine obgy [2,7] [] [7] (Qbs d) rfl (fun _=>rfl) rfl (fun _ _ _ _ h=>h) (fun hG=>⟨hG,trivial⟩) fun D ρ w hG hs=>?_
  have hb:=QaL (eq_of_beq hG)
  exact QaK (V:=.int .u32 (vat v d.rep.toNat)) Qa7 hs 0 rfl rfl (Qfk (by omega) (by omega)) ⟨rfl,hs⟩
 ·refine obgy [2,4,8] [] [4,8] (Qbs d) rfl (fun _=>rfl) rfl (fun _ _ _ _ h=>h) (fun hG=>⟨hG,hG,trivial⟩) fun D ρ w hG hs=>?_
  have hb:=QaL (eq_of_beq hG)
  exact Qd9 rfl rfl ⟨rfl,hs⟩
 ·exact ob [2,9] [] rfl rfl fun D ρ w hs=>Qa3 (h':=decide (d.seq≤vat v d.rep.toNat)) rfl rfl rfl ⟨rfl,hs⟩
 ·exact ob [10] [] rfl rfl fun D ρ w hs=>Qad (V:=.bool ((Qbs d)&&(decide (d.seq≤vat v d.rep.toNat)))) rfl ⟨rfl,hs⟩
 rintro ρ1 w6 ρ2 hρ hs
 replace hρ:ρ2=upd (mix [5,6,7,8,9,10,11,12,13,14,15,4] ρ1 _) 4 (.bool ((Qbs d)&&(decide (d.seq≤vat v d.rep.toNat)))):=hρ
 subst hρ
 refine Qas ?_
 refine ⟨_,Qao (V:=.bool ((Qbs d)&&(decide (d.seq≤vat v d.rep.toNat)))) Tryz.results52 rfl,?_⟩
 refine ⟨congrArg Ending.returned ?_,hs.take 0⟩
 rfl
theorem QhE (w:World) (v:Vec) (n:Int) (hv:Qca v):Calls Tryz.prog 44 #[.agg (vc v).toArray,.int .i64 n] w (fun e w'=>e = .returned (.bool (QaH v n))∧Own w no w' []):=by
 refine Qai (n:=30) Tryz.func44 rfl Tryz.ntmps44 rfl ?_
 have hs:=Own.start w
 refine Qag (Qab (Qaa (Qa9 (V:=.agg (vc v).toArray) (cs:=vc v) rfl rfl hs fun b1 w2 hs=>(Qaa (Qad (V:=.bool false) rfl (Qae (Qag (Qag (Qbi [some 7,some 8,some 9,some 10,some 11,some 12] [] [0,1,3,7,15,31] [pv (I6 n),pv (.bool (decide (n<1))),pv (.bool (decide (n<1))),pg ((decide (n<1)) == false) (I6 n),pg ((decide (n<1)) == false) (.bool (decide (16<n))),pv (.bool ((decide (n<1))||(decide (16<n))))] (fun _ _=>_) [5] (by kernel_rfl) hs ⟨?_,?_,?_,?_,?_,?_,trivial⟩ ?_)))))))))
 ·exact ob [] [] rfl rfl fun D ρ w hs=>Qac (V:=I6 n) rfl ⟨rfl,hs⟩
 ·exact ob [0] [] rfl rfl fun D ρ w hs=>QaP rfl rfl ⟨rfl,hs⟩
 ·exact ob [1] [] rfl rfl fun D ρ w hs=>Qac (V:=.bool (decide (n<1))) rfl ⟨rfl,hs⟩
 ·exact obg [2] [] (decide (n<1)) rfl (fun _=>rfl) rfl (fun _ _ _ _ h=>h) fun D ρ w hG hs=>Qac (V:=I6 n) rfl ⟨rfl,hs⟩
 ·exact obgy [2,3] [] [3] (decide (n<1)) rfl (fun _=>rfl) rfl (fun _ _ _ _ h=>h) (fun hG=>⟨hG,trivial⟩) fun D ρ w hG hs=>Qcb rfl rfl ⟨rfl,hs⟩
 ·exact ob [2,4] [] rfl rfl fun D ρ w hs=>QbS (h':=decide (16<n)) rfl rfl rfl ⟨rfl,hs⟩
 rintro ρ1 w3 ρ2 hρ hs
 replace hρ:ρ2=upd (mix [7,8,9,10,11,12] ρ1 _) 12 (.bool ((decide (n<1))||(decide (16<n)))):=hρ
 subst hρ
 refine Qal (t:=(decide (n<1))||(decide (16<n))) rfl (fun c4=>?_) (fun c4=>?_)
 ·
  refine Qag (Qab (Qaa (Qad (V:=.bool false) rfl (Qae (Qas ?_)))))
  refine ⟨_,Qao (V:=.bool false) Tryz.results44 rfl,?_⟩
  refine ⟨congrArg Ending.returned ?_,hs.take 0⟩
  exact congrArg Value.bool (Qe6 c4).symm
 ·
  have c4r:=Qfo c4
  replace c4:=Qfl c4
  replace c4:=QQ2 c4
  replace c4r:=QQ2 c4r
  refine Qan (Qag (Qag (Qab (Qaa (QaR (cs:=vc v) QbT hs 0 rfl rfl rfl (Qaa (Qac (V:=I6 0) rfl (Qae (Qak (Qax (fun ρ μ ρ' w'=>∃ (ρo:Env) (k:Nat),ρ'=upd (mix [4,5,6,14,15,16,17,18,19,20,21,22,23,24,25,26,27,28,29] ρo ρ) 14 (I6 (k:Int))∧(k≤16)∧(∀ j:Nat,j<k→Qgq v n j=true)∧μ=16-k∧Own w no w' [blk b1 (vc v) 24]) ?_ ?_))))))))))
  ·exact ⟨_,_,0,Qah (Qam (ds:=[4,5,6,14,15,16,17,18,19,20,21,22,23,24,25,26,27,28,29]) (Agr.refl _ _)) rfl,(by omega),(fun j hj=>absurd hj (Nat.not_lt_zero j)),rfl,hs⟩
  ·rintro μ ρ' w5 ⟨ρo,k,rfl,hk,hok,rfl,hs⟩
   have hv1:=Qgy hv ((k:Int).toNat)
   have hkk:((k:Int)).toNat=k:=rfl
   refine Qag (Qab (Qaa (QaP rfl rfl (Qae (Qag (Qal (t:=decide ((k:Int)<16)) rfl (fun c6=>?_) (fun c6=>?_)))))))
   ·
    replace c6:=QQ1 c6
    refine Qan (Qag (Qak (Qag (Qab (Qaa (Qac (V:=I6 (k:Int)) rfl (Qaa (QiU (V:=.int .u32 (vat v k)) Qd5 Qa7 rfl rfl (by omega) (by omega) (by rw [List.getElem?_toArray];exact QhL _ _ (by omega)) ?_))))))))
    refine Qaa (Qad (V:=I6 (k:Int)) rfl (Qaa (Qad (V:=.int .u32 (vat v k)) rfl (Qae (Qag (Qbi [some 18,some 19,some 20,some 21,some 22,some 23,some 24,some 25,some 26,some 27,some 28] [] [0,1,3,7,7,31,63,127,255,511,1023] [pv (.int .u32 (vat v k)),pv (.bool (decide (1048576<vat v k))),pv (.bool (decide (1048576<vat v k))),pg ((decide (1048576<vat v k)) == false) (I6 (k:Int)),pg ((decide (1048576<vat v k)) == false) (I6 n),pg ((decide (1048576<vat v k)) == false) (.bool (decide (n≤(k:Int)))),pg ((decide (1048576<vat v k)) == false) (.bool (decide (n≤(k:Int)))),pg (((decide (1048576<vat v k)) == false)&&((decide (n≤(k:Int))) == true)) (.int .u32 (vat v k)),pg (((decide (1048576<vat v k)) == false)&&((decide (n≤(k:Int))) == true)) (.bool (decide (0<vat v k))),pg ((decide (1048576<vat v k)) == false) (.bool ((decide (n≤(k:Int)))&&(decide (0<vat v k)))),pv (.bool ((decide (1048576<vat v k))||((decide (n≤(k:Int)))&&(decide (0<vat v k)))))] (fun _ _=>_) [10] (by kernel_rfl) hs ⟨?_,?_,?_,?_,?_,?_,?_,?_,?_,?_,?_,trivial⟩ ?_))))))
    ·exact ob [] [] rfl rfl fun D ρ w hs=>Qac (V:=.int .u32 (vat v k)) rfl ⟨rfl,hs⟩
    ·exact ob [0] [] rfl rfl fun D ρ w hs=>Qcb rfl rfl ⟨rfl,hs⟩
    ·exact ob [1] [] rfl rfl fun D ρ w hs=>Qac (V:=.bool (decide (1048576<vat v k))) rfl ⟨rfl,hs⟩
    ·exact obg [2] [] (decide (1048576<vat v k)) rfl (fun _=>rfl) rfl (fun _ _ _ _ h=>h) fun D ρ w hG hs=>Qac (V:=I6 (k:Int)) rfl ⟨rfl,hs⟩
    ·exact obg [2] [] (decide (1048576<vat v k)) rfl (fun _=>rfl) rfl (fun _ _ _ _ h=>h) fun D ρ w hG hs=>Qac (V:=I6 n) rfl ⟨rfl,hs⟩
    ·exact obgy [2,3,4] [] [3,4] (decide (1048576<vat v k)) rfl (fun _=>rfl) rfl (fun _ _ _ _ h=>h) (fun hG=>⟨hG,hG,trivial⟩) fun D ρ w hG hs=>QcN rfl rfl ⟨rfl,hs⟩
    ·exact obgy [2,5] [] [5] (decide (1048576<vat v k)) rfl (fun _=>rfl) rfl (fun _ _ _ _ h=>h) (fun hG=>⟨hG,trivial⟩) fun D ρ w hG hs=>Qac (V:=.bool (decide (n≤(k:Int)))) rfl ⟨rfl,hs⟩
    ·exact obg [6] [] (decide (n≤(k:Int))) rfl (fun _=>rfl) rfl (fun _ _ _ _ h=>h) fun D ρ w hG hs=>Qac (V:=.int .u32 (vat v k)) rfl ⟨rfl,hs⟩
    ·exact obgy [6,7] [] [7] (decide (n≤(k:Int))) rfl (fun _=>rfl) rfl (fun _ _ _ _ h=>h) (fun hG=>⟨hG,trivial⟩) fun D ρ w hG hs=>Qcb rfl rfl ⟨rfl,hs⟩
    ·exact obgy [2,6,8] [] [6] (decide (1048576<vat v k)) rfl (fun _=>rfl) rfl (fun _ _ _ _ h=>h) (fun hG=>⟨hG,trivial⟩) fun D ρ w hG hs=>QeA (h':=decide (0<vat v k)) (G:=((decide (1048576<vat v k)) == false)) hG rfl rfl rfl ⟨rfl,hs⟩
    ·exact ob [2,9] [] rfl rfl fun D ρ w hs=>QbS (h':=(decide (n≤(k:Int)))&&(decide (0<vat v k))) rfl rfl rfl ⟨rfl,hs⟩
    rintro ρ1 w7 ρ2 hρ hs
    replace hρ:ρ2=upd (mix [18,19,20,21,22,23,24,25,26,27,28] ρ1 _) 28 (.bool ((decide (1048576<vat v k))||((decide (n≤(k:Int)))&&(decide (0<vat v k))))):=hρ
    subst hρ
    refine Qal (t:=(decide (1048576<vat v k))||((decide (n≤(k:Int)))&&(decide (0<vat v k)))) rfl (fun c8=>?_) (fun c8=>?_)
    ·
     refine Qag (Qab (Qaa (Qad (V:=.bool false) rfl (Qae (Qas ?_)))))
     refine ⟨_,Qao (V:=.bool false) Tryz.results44 rfl,?_⟩
     refine ⟨congrArg Ending.returned ?_,hs.take 0⟩
     exact congrArg Value.bool (QhB (k:=k) (by omega) (Qmp c8)).symm
    ·
     have c8r:=Qfo c8
     replace c8:=Qfl c8
     replace c8:=QQ2 c8
     refine Qan (Qab (Qaa (Qav (a:=(k:Int)) (b:=1) (c:=(k:Int)+1) rfl rfl (Qbh (by omega) (by omega)) (Qaa (Qac (V:=I6 ((k:Int)+1)) rfl (Qae ?_))))))
     refine ⟨_,?_,_,k+1,Qah (Qam (ds:=[4,5,6,14,15,16,17,18,19,20,21,22,23,24,25,26,27,28,29]) (by repeat (first|exact Agr.refl _ _|refine Agr.upd ?_ rfl|refine Agr.mix ?_ rfl))) rfl,(by omega),(Qh1 hok (Qi1 c8 c8r)),rfl,hs.take 1⟩
     omega
   ·
    replace c6:=QQ2 c6
    refine Qaz (Qag (Qab (Qaa (Qad (V:=.bool true) rfl (Qae (Qas ?_))))))
    refine ⟨_,Qao (V:=.bool true) Tryz.results44 rfl,?_⟩
    refine ⟨congrArg Ending.returned ?_,hs.take 0⟩
    exact congrArg Value.bool ((QgI fun j hj=>hok j (by omega)).trans (by simp;omega)).symm
theorem Qlf (w:World) (v:Vec) (n:Int) (hv:Qca v):Calls Tryz.prog 50 #[.agg (vc v).toArray,.int .i64 n] w (fun e w'=>e = .returned (.bool (QaH v n))∧Own w no w' []):=by
 refine Qai (n:=31) Tryz.func50 rfl Tryz.ntmps50 rfl ?_
 have hs:=Own.start w
 refine Qag (Qab (Qaa (Qa9 (V:=.agg (vc v).toArray) (cs:=vc v) rfl rfl hs fun b1 w2 hs=>(Qaa (Qad (V:=.bool false) rfl (Qae (Qag (Qag (Qab (Qaa (Qad (V:=I6 0) rfl (Qae (Qak (Qax (fun ρ μ ρ' w'=>∃ (ρo:Env) (k:Nat),ρ'=upd (mix [4,5,6,7,8,9,10,11,12,13,14,15,16,17,18,19,20,21,22,23,24] ρo ρ) 5 (I6 (k:Int))∧(k≤16)∧(∀ j:Nat,j<k→Qgq v n j=true)∧μ=16-k∧Own w no w' [blk b1 (vc v) 24]) ?_ ?_))))))))))))))
 ·exact ⟨_,_,0,Qah (Qam (ds:=[4,5,6,7,8,9,10,11,12,13,14,15,16,17,18,19,20,21,22,23,24]) (Agr.refl _ _)) rfl,(by omega),(fun j hj=>absurd hj (Nat.not_lt_zero j)),rfl,hs⟩
 ·rintro μ ρ' w3 ⟨ρo,k,rfl,hk,hok,rfl,hs⟩
  have hv1:=Qgy hv ((k:Int).toNat)
  have hkk:((k:Int)).toNat=k:=rfl
  refine Qag (Qag (Qab (Qaa (Qac (V:=I6 (k:Int)) rfl (Qaa (QaP rfl rfl (Qae (Qal (t:=decide ((k:Int)<16)) rfl (fun c4=>?_) (fun c4=>?_)))))))))
  ·
   replace c4:=QQ1 c4
   refine Qan (Qag (Qak (Qag (Qbi [some 10,some 11,some 12,some 13,some 14,some 15,some 16,some 17,some 18,some 19,some 20,some 21,some 22,some 23,some 24] [] [0,1,3,7,15,31,31,127,255,511,1023,2047,4095,8191,16383] [pv (I6 (k:Int)),pv (.pointer (some ⟨b1,0+(k:Int).toNat,none⟩)),pv (.int .u32 (vat v k)),pv (.bool (decide (1048576<vat v k))),pv (.bool (decide (1048576<vat v k))),pg ((decide (1048576<vat v k)) == false) (I6 (k:Int)),pg ((decide (1048576<vat v k)) == false) (I6 n),pg ((decide (1048576<vat v k)) == false) (.bool (decide (n≤(k:Int)))),pg ((decide (1048576<vat v k)) == false) (.bool (decide (n≤(k:Int)))),pg (((decide (1048576<vat v k)) == false)&&((decide (n≤(k:Int))) == true)) (I6 (k:Int)),pg (((decide (1048576<vat v k)) == false)&&((decide (n≤(k:Int))) == true)) (.pointer (some ⟨b1,0+(k:Int).toNat,none⟩)),pg (((decide (1048576<vat v k)) == false)&&((decide (n≤(k:Int))) == true)) (.int .u32 (vat v k)),pg (((decide (1048576<vat v k)) == false)&&((decide (n≤(k:Int))) == true)) (.bool (!decide (vat v k=0))),pg ((decide (1048576<vat v k)) == false) (.bool ((decide (n≤(k:Int)))&&(!decide (vat v k=0)))),pv (.bool ((decide (1048576<vat v k))||((decide (n≤(k:Int)))&&(!decide (vat v k=0)))))] (fun _ _=>_) [14] (by kernel_rfl) hs ⟨?_,?_,?_,?_,?_,?_,?_,?_,?_,?_,?_,?_,?_,?_,?_,trivial⟩ ?_))))
   ·exact ob [] [] rfl rfl fun D ρ w hs=>Qac (V:=I6 (k:Int)) rfl ⟨rfl,hs⟩
   ·exact ob [0] [] rfl rfl fun D ρ w hs=>QbZ Qd5 Qa7.1 rfl rfl (by omega) (by omega) ⟨rfl,hs⟩
   ·exact ob [1] [] rfl rfl fun D ρ w hs=>QaK (V:=.int .u32 (vat v k)) Qa7 hs 0 rfl rfl (Qfk (by omega) (by omega)) ⟨rfl,hs⟩
   ·exact ob [2] [] rfl rfl fun D ρ w hs=>Qcb rfl rfl ⟨rfl,hs⟩
   ·exact ob [3] [] rfl rfl fun D ρ w hs=>Qac (V:=.bool (decide (1048576<vat v k))) rfl ⟨rfl,hs⟩
   ·exact obg [4] [] (decide (1048576<vat v k)) rfl (fun _=>rfl) rfl (fun _ _ _ _ h=>h) fun D ρ w hG hs=>Qac (V:=I6 (k:Int)) rfl ⟨rfl,hs⟩
   ·exact obg [4] [] (decide (1048576<vat v k)) rfl (fun _=>rfl) rfl (fun _ _ _ _ h=>h) fun D ρ w hG hs=>Qac (V:=I6 n) rfl ⟨rfl,hs⟩
   ·exact obgy [4,5,6] [] [5,6] (decide (1048576<vat v k)) rfl (fun _=>rfl) rfl (fun _ _ _ _ h=>h) (fun hG=>⟨hG,hG,trivial⟩) fun D ρ w hG hs=>QcN rfl rfl ⟨rfl,hs⟩
   ·exact obgy [4,7] [] [7] (decide (1048576<vat v k)) rfl (fun _=>rfl) rfl (fun _ _ _ _ h=>h) (fun hG=>⟨hG,trivial⟩) fun D ρ w hG hs=>Qac (V:=.bool (decide (n≤(k:Int)))) rfl ⟨rfl,hs⟩
   ·exact obg [8] [] (decide (n≤(k:Int))) rfl (fun _=>rfl) rfl (fun _ _ _ _ h=>h) fun D ρ w hG hs=>Qac (V:=I6 (k:Int)) rfl ⟨rfl,hs⟩
   ·refine obgy [8,9] [] [9] (decide (n≤(k:Int))) rfl (fun _=>rfl) rfl (fun _ _ _ _ h=>h) (fun hG=>⟨hG,trivial⟩) fun D ρ w hG hs=>?_
    have hgd0:=QQ2 (eq_of_beq (QbQ (hG)))
    have hgd1:=QQ1 (eq_of_beq (Qcd (hG)))
    exact QbZ Qd5 Qa7.1 rfl rfl (by omega) (by omega) ⟨rfl,hs⟩
   ·refine obgy [8,10] [] [10] (decide (n≤(k:Int))) rfl (fun _=>rfl) rfl (fun _ _ _ _ h=>h) (fun hG=>⟨hG,trivial⟩) fun D ρ w hG hs=>?_
    have hgd0:=QQ2 (eq_of_beq (QbQ (hG)))
    have hgd1:=QQ1 (eq_of_beq (Qcd (hG)))
    exact QaK (V:=.int .u32 (vat v k)) Qa7 hs 0 rfl rfl (Qfk (by omega) (by omega)) ⟨rfl,hs⟩
   ·exact obgy [8,11] [] [11] (decide (n≤(k:Int))) rfl (fun _=>rfl) rfl (fun _ _ _ _ h=>h) (fun hG=>⟨hG,trivial⟩) fun D ρ w hG hs=>Qcr rfl rfl ⟨rfl,hs⟩
   ·exact obgy [4,8,12] [] [8] (decide (1048576<vat v k)) rfl (fun _=>rfl) rfl (fun _ _ _ _ h=>h) (fun hG=>⟨hG,trivial⟩) fun D ρ w hG hs=>QeA (h':=!decide (vat v k=0)) (G:=((decide (1048576<vat v k)) == false)) hG rfl rfl rfl ⟨rfl,hs⟩
   ·exact ob [4,13] [] rfl rfl fun D ρ w hs=>QbS (h':=(decide (n≤(k:Int)))&&(!decide (vat v k=0))) rfl rfl rfl ⟨rfl,hs⟩
   rintro ρ1 w5 ρ2 hρ hs
   replace hρ:ρ2=upd (mix [10,11,12,13,14,15,16,17,18,19,20,21,22,23,24] ρ1 _) 24 (.bool ((decide (1048576<vat v k))||((decide (n≤(k:Int)))&&(!decide (vat v k=0))))):=hρ
   subst hρ
   refine Qal (t:=(decide (1048576<vat v k))||((decide (n≤(k:Int)))&&(!decide (vat v k=0)))) rfl (fun c6=>?_) (fun c6=>?_)
   ·
    refine Qag (Qab (Qaa (Qad (V:=.bool false) rfl (Qae (Qas ?_)))))
    refine ⟨_,Qao (V:=.bool false) Tryz.results50 rfl,?_⟩
    refine ⟨congrArg Ending.returned ?_,hs.take 0⟩
    exact congrArg Value.bool (QhB (k:=k) (by omega) (QnG hv c6)).symm
   ·
    have c6r:=Qfo c6
    replace c6:=Qfl c6
    replace c6:=QQ2 c6
    refine Qan (Qab (Qaa (Qac (V:=I6 (k:Int)) rfl (Qaa (Qav (a:=(k:Int)) (b:=1) (c:=(k:Int)+1) rfl rfl (Qbh (by omega) (by omega)) (Qaa (Qad (V:=I6 ((k:Int)+1)) rfl (Qae ?_))))))))
    refine ⟨_,?_,_,k+1,Qah (Qam (ds:=[4,5,6,7,8,9,10,11,12,13,14,15,16,17,18,19,20,21,22,23,24]) (by repeat (first|exact Agr.refl _ _|refine Agr.upd ?_ rfl|refine Agr.mix ?_ rfl))) rfl,(by omega),(Qh1 hok (QkN hv c6 c6r)),rfl,hs.take 1⟩
    omega
  ·
   replace c4:=QQ2 c4
   refine Qaz (Qag (Qbi [some 25,some 26,some 27,some 28,some 29,some 30,some 4] [] [0,1,3,7,15,31,63] [pv (I6 n),pv (.bool (decide (1≤n))),pv (.bool (decide (1≤n))),pg ((decide (1≤n)) == true) (I6 n),pg ((decide (1≤n)) == true) (.bool (decide (n≤16))),pv (.bool ((decide (1≤n))&&(decide (n≤16)))),pv (.bool ((decide (1≤n))&&(decide (n≤16))))] (fun _ _=>_) [6] (by kernel_rfl) hs ⟨?_,?_,?_,?_,?_,?_,?_,trivial⟩ ?_))
   ·exact ob [] [] rfl rfl fun D ρ w hs=>Qac (V:=I6 n) rfl ⟨rfl,hs⟩
   ·exact ob [0] [] rfl rfl fun D ρ w hs=>QcN rfl rfl ⟨rfl,hs⟩
   ·exact ob [1] [] rfl rfl fun D ρ w hs=>Qac (V:=.bool (decide (1≤n))) rfl ⟨rfl,hs⟩
   ·exact obg [2] [] (decide (1≤n)) rfl (fun _=>rfl) rfl (fun _ _ _ _ h=>h) fun D ρ w hG hs=>Qac (V:=I6 n) rfl ⟨rfl,hs⟩
   ·exact obgy [2,3] [] [3] (decide (1≤n)) rfl (fun _=>rfl) rfl (fun _ _ _ _ h=>h) (fun hG=>⟨hG,trivial⟩) fun D ρ w hG hs=>Qd9 rfl rfl ⟨rfl,hs⟩
   ·exact ob [2,4] [] rfl rfl fun D ρ w hs=>Qa3 (h':=decide (n≤16)) rfl rfl rfl ⟨rfl,hs⟩
   ·exact ob [5] [] rfl rfl fun D ρ w hs=>Qad (V:=.bool ((decide (1≤n))&&(decide (n≤16)))) rfl ⟨rfl,hs⟩
   rintro ρ1 w7 ρ2 hρ hs
   replace hρ:ρ2=upd (mix [25,26,27,28,29,30,4] ρ1 _) 4 (.bool ((decide (1≤n))&&(decide (n≤16)))):=hρ
   subst hρ
   refine Qas ?_
   refine ⟨_,Qao (V:=.bool ((decide (1≤n))&&(decide (n≤16)))) Tryz.results50 rfl,?_⟩
   refine ⟨congrArg Ending.returned ?_,hs.take 0⟩
   exact congrArg Value.bool (QgI fun j hj=>hok j (by omega)).symm
theorem Qif (w:World) (a b:Vec):Calls Tryz.prog 53 #[.agg (vc a).toArray,.agg (vc b).toArray] w (fun e w'=>e = .returned (.bool (vle a b))∧Own w no w' []):=by
 refine Qai (n:=17) Tryz.func53 rfl Tryz.ntmps53 rfl ?_
 have hs:=Own.start w
 refine Qag (Qab (Qaa (Qa9 (V:=.agg (vc a).toArray) (cs:=vc a) rfl rfl hs fun b1 w2 hs=>(Qaa (Qa9 (V:=.agg (vc b).toArray) (cs:=vc b) rfl rfl hs fun b3 w4 hs=>(Qaa (Qad (V:=.bool false) rfl (Qae (Qag (Qag (Qab (Qaa (Qad (V:=I6 0) rfl (Qae (Qak (Qax (fun ρ μ ρ' w'=>∃ (ρo:Env) (k:Nat),ρ'=upd (mix [4,5,6,7,8,9,10,11,12,13,14,15,16] ρo ρ) 5 (I6 (k:Int))∧(k≤16)∧(∀ j:Nat,j<k→vat a j≤vat b j)∧μ=16-k∧Own w no w' [blk b1 (vc a) 24,blk b3 (vc b) 24]) ?_ ?_))))))))))))))))
 ·exact ⟨_,_,0,Qah (Qam (ds:=[4,5,6,7,8,9,10,11,12,13,14,15,16]) (Agr.refl _ _)) rfl,(by omega),(fun j hj=>absurd hj (Nat.not_lt_zero j)),rfl,hs⟩
 ·rintro μ ρ' w5 ⟨ρo,k,rfl,hk,hle,rfl,hs⟩
  refine Qag (Qag (Qab (Qaa (Qac (V:=I6 (k:Int)) rfl (Qaa (QaP rfl rfl (Qae (Qal (t:=decide ((k:Int)<16)) rfl (fun c6=>?_) (fun c6=>?_)))))))))
  ·
   replace c6:=QQ1 c6
   refine Qan (Qag (Qak (Qag (QaC HM [some 10,some 11,some 12,some 13,some 14,some 15,some 16] [] [0,1,3,0,8,24,63] [pv (I6 (k:Int)),pv (.pointer (some ⟨b1,0+(k:Int).toNat,none⟩)),pv (.int .u32 (vat a k)),pv (I6 (k:Int)),pv (.pointer (some ⟨b3,0+(k:Int).toNat,none⟩)),pv (.int .u32 (vat b k)),pv (.bool (decide (vat b k<vat a k)))] (fun _ _=>_) [6] (by kernel_rfl) hs ⟨?_,?_,?_,?_,?_,?_,?_,trivial⟩ ?_))))
   ·exact ob [] [] rfl rfl fun D ρ w hs=>Qac (V:=I6 (k:Int)) rfl ⟨rfl,hs⟩
   ·exact ob [0] [] rfl rfl fun D ρ w hs=>QbZ Qd5 Qa7.1 rfl rfl (by omega) (by omega) ⟨rfl,hs⟩
   ·exact ob [1] [] rfl rfl fun D ρ w hs=>QaK (V:=.int .u32 (vat a k)) Qa7 hs 0 rfl rfl (Qfk (by omega) (by omega)) ⟨rfl,hs⟩
   ·exact ob [] [] rfl rfl fun D ρ w hs=>Qac (V:=I6 (k:Int)) rfl ⟨rfl,hs⟩
   ·exact ob [3] [] rfl rfl fun D ρ w hs=>QbZ Qd5 Qa7.1 rfl rfl (by omega) (by omega) ⟨rfl,hs⟩
   ·exact ob [4] [] rfl rfl fun D ρ w hs=>QaK (V:=.int .u32 (vat b k)) Qa7 hs 1 rfl rfl (Qfk (by omega) (by omega)) ⟨rfl,hs⟩
   ·exact ob [2,5] [] rfl rfl fun D ρ w hs=>Qcb rfl rfl ⟨rfl,hs⟩
   rintro ρ1 w7 ρ2 hρ hs
   replace hρ:ρ2=upd (mix [10,11,12,13,14,15,16] ρ1 _) 16 (.bool (decide (vat b k<vat a k))):=hρ
   subst hρ
   refine Qal (t:=decide (vat b k<vat a k)) rfl (fun c8=>?_) (fun c8=>?_)
   ·
    replace c8:=QQ1 c8
    refine Qag (Qab (Qaa (Qad (V:=.bool false) rfl (Qae (Qas ?_)))))
    refine ⟨_,Qao (V:=.bool false) Tryz.results53 rfl,?_⟩
    refine ⟨congrArg Ending.returned ?_,hs.take 0⟩
    exact congrArg Value.bool (Qsx (k:=k) (by omega) c8).symm
   ·
    replace c8:=QQ2 c8
    refine Qan (Qab (Qaa (Qac (V:=I6 (k:Int)) rfl (Qaa (Qav (a:=(k:Int)) (b:=1) (c:=(k:Int)+1) rfl rfl (Qbh (by omega) (by omega)) (Qaa (Qad (V:=I6 ((k:Int)+1)) rfl (Qae ?_))))))))
    refine ⟨_,?_,_,k+1,Qah (Qam (ds:=[4,5,6,7,8,9,10,11,12,13,14,15,16]) (by repeat (first|exact Agr.refl _ _|refine Agr.upd ?_ rfl|refine Agr.mix ?_ rfl))) rfl,(by omega),(Qnr hle c8),rfl,hs.take 2⟩
    omega
  ·
   replace c6:=QQ2 c6
   refine Qaz (Qag (Qab (Qaa (Qad (V:=.bool true) rfl (Qae (Qas ?_))))))
   refine ⟨_,Qao (V:=.bool true) Tryz.results53 rfl,?_⟩
   refine ⟨congrArg Ending.returned ?_,hs.take 0⟩
   exact congrArg Value.bool (QiI fun j hj=>hle j (by omega)).symm
theorem QjA (w:World) (a b:Vec):Calls Tryz.prog 66 #[.agg (vc a).toArray,.agg (vc b).toArray] w (fun e w'=>e = .returned (.agg (vc (vjoin a b)).toArray)∧Own w no w' []):=by
 refine Qai (n:=21) Tryz.func66 rfl Tryz.ntmps66 rfl ?_
 have hs:=Own.start w
 refine Qag (Qab (Qaa (Qa9 (V:=.agg (vc a).toArray) (cs:=vc a) rfl rfl hs fun b1 w2 hs=>(Qaa (Qa9 (V:=.agg (vc b).toArray) (cs:=vc b) rfl rfl hs fun b3 w4 hs=>(Qaa (QaJ (cs:=vc vzero) QrF rfl hs fun b5 w6 hs=>(Qae (Qag (Qag (Qab (Qaa (QaR (cs:=vc b) QbT hs 1 rfl rfl rfl (Qaa (Qac (V:=I6 0) rfl (Qae (Qak (Qax (fun ρ μ ρ' w'=>∃ (ρo:Env) (k:Nat) (u:Vec),ρ'=upd (mix [5,6,8,9,10,11,12,13,14,15,16,17,18,19] ρo ρ) 8 (I6 (k:Int))∧(k≤16)∧(u=Qfz a b k)∧μ=16-k∧Own w no w' [blk b1 (vc u) 24,blk b3 (vc b) 24,blk b5 (vc vzero) 24]) ?_ ?_))))))))))))))))))
 ·exact ⟨_,_,0,a,Qah (Qam (ds:=[5,6,8,9,10,11,12,13,14,15,16,17,18,19]) (Agr.refl _ _)) rfl,(by omega),((QqA a b).symm),rfl,hs⟩
 ·rintro μ ρ' w7 ⟨ρo,k,u,rfl,hk,hu,rfl,hs⟩
  refine Qag (Qab (Qaa (QaP rfl rfl (Qae (Qag (Qal (t:=decide ((k:Int)<16)) rfl (fun c8=>?_) (fun c8=>?_)))))))
  ·
   replace c8:=QQ1 c8
   refine Qan (Qag (Qak (Qag (Qab (Qaa (Qac (V:=I6 (k:Int)) rfl (Qaa (QiU (V:=.int .u32 (vat b k)) Qd5 Qa7 rfl rfl (by omega) (by omega) (by rw [List.getElem?_toArray];exact QhL _ _ (by omega)) ?_))))))))
   refine Qaa (Qad (V:=I6 (k:Int)) rfl (Qaa (Qad (V:=.int .u32 (vat b k)) rfl (Qae (Qab (Qaa (Qac (V:=I6 (k:Int)) rfl (Qaa (Qac (V:=I6 (k:Int)) rfl (Qaa (QbZ Qd5 Qa7.1 rfl rfl (by omega) (by omega) (Qaa (QaK (V:=.int .u32 (vat u k)) Qa7 hs 0 rfl rfl (Qfk (by omega) (by omega)) (Qaa (Qac (V:=.int .u32 (vat b k)) rfl (Qaa (Qou rfl rfl (Qaa (QbZ Qd5 Qa7.1 rfl rfl (by omega) (by omega) (Qaa (Qdd (V:=.int .u32 (max (vat u k) (vat b k))) (cs':=vc (vset u k (max (vat u k) (vat b k)))) Qa7 hs 0 rfl rfl rfl rfl (QrG (by omega)) (QmC (by omega) (by omega)) fun w9 hs=>?_)))))))))))))))))))))
   replace hs:Own w no w9 [blk b1 (vc (vset u k (max (vat u k) (vat b k)))) 24,blk b3 (vc b) 24,blk b5 (vc vzero) 24]:=hs
   refine Qae (Qab (Qaa (Qav (a:=(k:Int)) (b:=1) (c:=(k:Int)+1) rfl rfl (Qbh (by omega) (by omega)) (Qaa (Qac (V:=I6 ((k:Int)+1)) rfl (Qae ?_))))))
   refine ⟨_,?_,_,k+1,vset u k (max (vat u k) (vat b k)),Qah (Qam (ds:=[5,6,8,9,10,11,12,13,14,15,16,17,18,19]) (by repeat (first|exact Agr.refl _ _|refine Agr.upd ?_ rfl|refine Agr.mix ?_ rfl))) rfl,(by omega),(by subst hu;exact Qkz (by omega)),rfl,hs.take 3⟩
   omega
  ·
   replace c8:=QQ2 c8
   refine Qaz (Qag (Qab (Qaa (QaR (cs:=vc u) QbT hs 0 rfl rfl rfl (Qaa (QcC (V:=.agg (vc u).toArray) (vs:=vc u) (cs':=vc u) QbT.1 hs 2 rfl rfl rfl rfl rfl (QQ8 rfl) (QcJ _) (Qaw rfl) fun w10 hs=>?_))))))
   replace hs:Own w no w10 [blk b1 (vc u) 24,blk b3 (vc b) 24,blk b5 (vc u) 24]:=hs
   refine Qae (Qas ?_)
   refine ⟨_,Qcx (cs:=vc u) Tryz.results66 QbT hs 2 rfl rfl rfl,?_⟩
   refine ⟨congrArg Ending.returned ?_,hs.take 0⟩
   rw [hu,show k=16 by omega,QnO]
theorem QkK (w:World) (a b:Vec):Calls Tryz.prog 70 #[.agg (vc a).toArray,.agg (vc b).toArray] w (fun e w'=>e = .returned (.bool (vle a b))∧Own w no w' []):=by
 refine Qai (n:=10) Tryz.func70 rfl Tryz.ntmps70 rfl ?_
 have hs:=Own.start w
 refine Qag (Qab (Qaa (Qa9 (V:=.agg (vc a).toArray) (cs:=vc a) rfl rfl hs fun b1 w2 hs=>(Qaa (Qa9 (V:=.agg (vc b).toArray) (cs:=vc b) rfl rfl hs fun b3 w4 hs=>(Qaa (Qad (V:=.bool false) rfl (Qae (Qag (QaC HM [some 5,some 6,some 7,some 8,some 9,some 4] [] [0,0,3,0,15,31] [pv (.agg (vc a).toArray),pv (.agg (vc b).toArray),pv (.agg (vc (vjoin a b)).toArray),pv (.agg (vc b).toArray),pv (.bool (decide (vjoin a b=b))),pv (.bool (decide (vjoin a b=b)))] (fun _ _=>_) [5] (by kernel_rfl) hs ⟨?_,?_,?_,?_,?_,?_,trivial⟩ ?_))))))))))
 ·exact ob [] [] rfl rfl fun D ρ w hs=>QaR (cs:=vc a) QbT hs 0 rfl rfl rfl ⟨rfl,hs⟩
 ·exact ob [] [] rfl rfl fun D ρ w hs=>QaR (cs:=vc b) QbT hs 1 rfl rfl rfl ⟨rfl,hs⟩
 ·exact ob [0,1] [] rfl rfl fun D ρ w hs=>Qar (vs:=[.agg (vc a).toArray,.agg (vc b).toArray]) (V:=.agg (vc (vjoin a b)).toArray) QsC rfl rfl (QjA _ a b) hs fun _ hs=>⟨rfl,hs⟩
 ·exact ob [] [] rfl rfl fun D ρ w hs=>QaR (cs:=vc b) QbT hs 1 rfl rfl rfl ⟨rfl,hs⟩
 ·exact ob [2,3] [] rfl rfl fun D ρ w hs=>Qnu (xs:=vc (vjoin a b)) (ys:=vc b) Tryz.eqGuardType24 (Qr3 (vjoin a b) b) rfl rfl rfl ⟨rfl,hs⟩
 ·exact ob [4] [] rfl rfl fun D ρ w hs=>Qad (V:=.bool (decide (vjoin a b=b))) rfl ⟨rfl,hs⟩
 rintro ρ1 w6 ρ2 hρ hs
 replace hρ:ρ2=upd (mix [5,6,7,8,9,4] ρ1 _) 4 (.bool (decide (vjoin a b=b))):=hρ
 subst hρ
 refine Qas ?_
 refine ⟨_,Qao (V:=.bool (decide (vjoin a b=b))) Tryz.results70 rfl,?_⟩
 refine ⟨congrArg Ending.returned ?_,hs.take 0⟩
 exact congrArg Value.bool (Qpm a b)
theorem QqJ (w:World) (v:Vec) (hv:Qca v):Calls Tryz.prog 74 #[.agg (vc v).toArray] w (fun e w'=>e = .returned (.int .u64 (vsum v))∧Own w no w' []):=by
 refine Qai (n:=16) Tryz.func74 rfl Tryz.ntmps74 rfl ?_
 have hs:=Own.start w
 refine Qag (Qab (Qaa (Qa9 (V:=.agg (vc v).toArray) (cs:=vc v) rfl rfl hs fun b1 w2 hs=>(Qaa (Qad (V:=.int .u64 0) rfl (Qae (Qag (Qab (Qaa (Qad (V:=.int .u64 0) rfl (Qae (Qag (Qag (Qab (Qaa (QaR (cs:=vc v) QbT hs 0 rfl rfl rfl (Qaa (Qac (V:=I6 0) rfl (Qae (Qak (Qax (fun ρ μ ρ' w'=>∃ (ρo:Env) (k:Nat) (n:Int),ρ'=upd (upd (mix [3,5,7,8,9,10,11,12,13,14] ρo ρ) 7 (I6 (k:Int))) 3 (.int .u64 n)∧(k≤16)∧(n=Qe4 v k)∧(0≤n∧n≤(k:Int)*4294967296)∧μ=16-k∧Own w no w' [blk b1 (vc v) 24]) ?_ ?_)))))))))))))))))))))
 ·exact ⟨_,_,0,0,Qah (Qah (Qam (ds:=[3,5,7,8,9,10,11,12,13,14]) (Agr.refl _ _)) rfl) rfl,(by omega),rfl,(⟨by omega,by omega⟩),rfl,hs⟩
 ·rintro μ ρ' w3 ⟨ρo,k,n,rfl,hk,hn,hnb,rfl,hs⟩
  refine Qag (Qab (Qaa (QaP rfl rfl (Qae (Qag (Qal (t:=decide ((k:Int)<16)) rfl (fun c4=>?_) (fun c4=>?_)))))))
  ·
   replace c4:=QQ1 c4
   refine Qan (Qag (Qak (Qag ?_)))
   have hv1:=Qgy hv k
   refine Qab (Qaa (QiU (V:=.int .u32 (vat v k)) Qd5 Qa7 rfl rfl (by omega) (by omega) (by rw [List.getElem?_toArray];exact QhL _ _ (by omega)) ?_))
   refine Qaa (Qad (V:=.int .u32 (vat v k)) rfl (Qae (Qab (Qaa (Qac (V:=.int .u64 n) rfl (Qaa (Qac (V:=.int .u32 (vat v k)) rfl (Qaa (QbD Qh9 Qpt rfl (QcX (by omega) (by omega)) (Qaa (Qav (a:=n) (b:=vat v k) (c:=n+(vat v k)) rfl rfl (QcX (by omega) (by omega)) (Qaa (Qad (V:=.int .u64 (n+(vat v k))) rfl (Qae (Qab (Qaa (Qav (a:=(k:Int)) (b:=1) (c:=(k:Int)+1) rfl rfl (Qbh (by omega) (by omega)) (Qaa (Qac (V:=I6 ((k:Int)+1)) rfl (Qae ?_))))))))))))))))))))
   refine ⟨_,?_,_,k+1,n+(vat v k),Qah (Qah (Qam (ds:=[3,5,7,8,9,10,11,12,13,14]) (by repeat (first|exact Agr.refl _ _|refine Agr.upd ?_ rfl|refine Agr.mix ?_ rfl))) rfl) rfl,(by omega),(Qgu hn),(⟨by omega,by omega⟩),rfl,hs.take 1⟩
   omega
  ·
   replace c4:=QQ2 c4
   refine Qaz (Qag (Qab (Qaa (Qac (V:=.int .u64 n) rfl (Qaa (Qad (V:=.int .u64 n) rfl (Qae (Qas ?_))))))))
   refine ⟨_,Qao (V:=.int .u64 n) Tryz.results74 rfl,?_⟩
   refine ⟨congrArg Ending.returned ?_,hs.take 0⟩
   rw [hn,show k=16 by omega,Qmm]
theorem QlQ (w:World) (v:Vec) (hv:Qca v):Calls Tryz.prog 16 #[.agg (vc v).toArray] w (fun e w'=>e = .returned (.int .u64 (vsum v))∧Own w no w' []):=by
 refine Qai (n:=16) Tryz.func16 rfl Tryz.ntmps16 rfl ?_
 have hs:=Own.start w
 refine Qag (Qab (Qaa (Qa9 (V:=.agg (vc v).toArray) (cs:=vc v) rfl rfl hs fun b1 w2 hs=>(Qaa (Qad (V:=.int .u64 0) rfl (Qae (Qag (Qab (Qaa (Qad (V:=.int .u64 0) rfl (Qae (Qag (Qag (Qab (Qaa (Qad (V:=I6 0) rfl (Qae (Qak (Qax (fun ρ μ ρ' w'=>∃ (ρo:Env) (k:Nat) (n:Int),ρ'=upd (upd (mix [3,4,5,6,7,8,9,10,11,12,13,14] ρo ρ) 4 (I6 (k:Int))) 3 (.int .u64 n)∧(k≤16)∧(n=Qe4 v k)∧(0≤n∧n≤(k:Int)*4294967296)∧μ=16-k∧Own w no w' [blk b1 (vc v) 24]) ?_ ?_)))))))))))))))))))
 ·exact ⟨_,_,0,0,Qah (Qah (Qam (ds:=[3,4,5,6,7,8,9,10,11,12,13,14]) (Agr.refl _ _)) rfl) rfl,(by omega),rfl,(⟨by omega,by omega⟩),rfl,hs⟩
 ·rintro μ ρ' w3 ⟨ρo,k,n,rfl,hk,hn,hnb,rfl,hs⟩
  refine Qag (Qag (Qab (Qaa (Qac (V:=I6 (k:Int)) rfl (Qaa (QaP rfl rfl (Qae (Qal (t:=decide ((k:Int)<16)) rfl (fun c4=>?_) (fun c4=>?_)))))))))
  ·
   replace c4:=QQ1 c4
   refine Qan (Qag (Qak ?_))
   have hv1:=Qgy hv k
   refine Qab (Qaa (Qac (V:=.int .u64 n) rfl (Qaa (Qac (V:=I6 (k:Int)) rfl (Qaa (QbZ Qd5 Qa7.1 rfl rfl (by omega) (by omega) (Qaa (QaK (V:=.int .u32 (vat v k)) Qa7 hs 0 rfl rfl (Qfk (by omega) (by omega)) (Qaa (QbD Qh9 Qpt rfl (QcX (by omega) (by omega)) (Qaa (Qav (a:=n) (b:=vat v k) (c:=n+(vat v k)) rfl rfl (QcX (by omega) (by omega)) (Qaa (Qad (V:=.int .u64 (n+(vat v k))) rfl (Qae (Qab (Qaa (Qac (V:=I6 (k:Int)) rfl (Qaa (Qav (a:=(k:Int)) (b:=1) (c:=(k:Int)+1) rfl rfl (Qbh (by omega) (by omega)) (Qaa (Qad (V:=I6 ((k:Int)+1)) rfl (Qae ?_)))))))))))))))))))))))
   refine ⟨_,?_,_,k+1,n+(vat v k),Qah (Qah (Qam (ds:=[3,4,5,6,7,8,9,10,11,12,13,14]) (by repeat (first|exact Agr.refl _ _|refine Agr.upd ?_ rfl|refine Agr.mix ?_ rfl))) rfl) rfl,(by omega),(Qgu hn),(⟨by omega,by omega⟩),rfl,hs.take 1⟩
   omega
  ·
   replace c4:=QQ2 c4
   refine Qaz (Qag (Qab (Qaa (Qac (V:=.int .u64 n) rfl (Qaa (Qad (V:=.int .u64 n) rfl (Qae (Qas ?_))))))))
   refine ⟨_,Qao (V:=.int .u64 n) Tryz.results16 rfl,?_⟩
   refine ⟨congrArg Ending.returned ?_,hs.take 0⟩
   rw [hn,show k=16 by omega,Qmm]
end Tt
end Go.Proofs
