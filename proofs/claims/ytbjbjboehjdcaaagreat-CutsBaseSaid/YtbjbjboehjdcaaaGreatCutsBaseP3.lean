/- A part of a proof: what functions of the program compute, and plain facts on that. -/
import Derived.Test.YtbjbjboehjdcaaaGreatCutsBaseP2
import Derived.KernelRfl
import Derived.Test.YtbjbjboehjdcaaaGreatProg
import Derived.Shelf.SlSortCmp.Xorshift
import Derived.Laws.Bits64b
import Derived.Sort.LotD5
import Derived.Laws.BytesArg
import Derived.Sort.EncStr
import Derived.MapKept
set_option linter.unusedVariables false
set_option linter.unusedSimpArgs false
set_option maxHeartbeats 4000000
set_option maxRecDepth 100000
namespace Go.Vx
theorem Own.sel {w0 w:World} {M:Nat->Prop} {L:List Res} (h:Own w0 M w L) (is:List Nat) {L':List Res} (hn:is.Nodup) (he:(is.map fun i=>L[i]?)=L'.map some):Own w0 M w L':=by
 obtain ⟨a,b,c,d,e,S,f,g,i,j⟩:=h
 have key:∀ {k:Nat} {R:Res},L'[k]?=some R->∃ n,is[k]?=some n/\L[n]?=some R:=fun {k R} hk=>by
  have h1:(is.map fun i=>L[i]?)[k]?=(L'.map some)[k]?:=by rw [he]
  rw [List.getElem?_map,List.getElem?_map,hk] at h1
  cases hi:is[k]? with
  | none=>rw [hi] at h1;cases h1
  | some n=>rw [hi] at h1;exact ⟨n,rfl,by simpa using h1⟩
 refine ⟨a,b,c,d,e,fun k b=>∃ n,is[k]?=some n/\S n b,fun k R hk=>?_,?_,?_,?_⟩
 ·obtain ⟨n,h1,h2⟩:=key hk
  have e1:(fun b=>∃ m,is[k]?=some m/\S m b)=S n:=by
   funext b;apply propext
   constructor
   ·rintro ⟨m,h3,h4⟩;rw [h1] at h3;cases h3;exact h4
   ·exact fun h=>⟨n,h1,h⟩
  show R.holds w (fun b=>∃ m,is[k]?=some m/\S m b)
  rw [e1];exact f n R h2
 ·rintro k b ⟨n,_,h⟩;exact g n b h
 ·rintro k k' b ⟨n,h1,h2⟩ ⟨m,h3,h4⟩
  have hnm:=i n m b h2 h4
  subst hnm
  have hk:k<is.length:=by rcases Nat.lt_or_ge k is.length with q|q;exact q;rw [List.getElem?_eq_none q] at h1;cases h1
  have hk':k'<is.length:=by rcases Nat.lt_or_ge k' is.length with q|q;exact q;rw [List.getElem?_eq_none q] at h3;cases h3
  rw [List.getElem?_eq_getElem hk] at h1
  rw [List.getElem?_eq_getElem hk'] at h3
  exact (List.getElem_inj hn).1 ((Option.some.inj h1).trans (Option.some.inj h3).symm)
 ·rintro k b ⟨n,_,h⟩ hb;exact j n b h hb
section
variable {α:Type} [Inhabited α] {l m:List α}
theorem QoU {k:Nat} (h:∀ j:Nat,j<k->gd l j=gd m j) (hk:gd l k=gd m k):∀ j:Nat,j<k+1->gd l j=gd m j:=by
 intro j hj
 by_cases e:j=k
 ·subst e;exact hk
 ·exact h j (by omega)
theorem Qm8 (hn:l.length=m.length) (h:∀ j:Nat,j<l.length->gd l j=gd m j):l=m:=by
 apply List.ext_getElem hn
 intro j h1 h2
 have:=h j h1
 simpa [gd,h1,h2] using this
end
theorem Seq.take {l:List Opn} (h:Seq l):∀ k,Seq (l.take k):=by
 induction h with
 | nil=>intro k;rw [List.take_nil];exact .nil
 | @snoc l o h1 h2 h3 h4 h5 h6 ih =>
  intro k
  rcases Nat.lt_or_ge l.length k with q|q
  ·rw [List.take_of_length_le (by rw [QQ7,List.length_singleton];omega)];exact .snoc h1 h2 h3 h4 h5 h6
  ·rw [List.take_append_of_le_length q];exact ih k
theorem Qhl {e:Cen}:∀ {l:List Cen},(Qkh e l).length=l.length+1
 | []=>rfl
 | x :: l=>by
  unfold Qkh;split
  ·rfl
  ·rw [List.length_cons,Qhl];rfl
theorem Qlh (s:Sta) (o:Opn):(QdY s o).ents.length<=s.ents.length+1/\(QdY s o).ticks.length<=s.ticks.length+1:=by
 have h1:=List.length_filter_le (fun e=>!QaE o (QaH e)) s.ents
 refine ⟨?_,Qhr s.ticks⟩
 unfold QdY
 dsimp only
 split
 ·rw [Qhl];omega
 ·omega
theorem Qki (l:List Opn):(QcV l).ents.length<=l.length/\(QcV l).ticks.length<=l.length:=by
 refine Qbr (motive:=fun l=>(QcV l).ents.length<=l.length/\(QcV l).ticks.length<=l.length) ⟨Nat.le_refl _,Nat.le_refl _⟩ (fun l o ih=>?_) l
 rw [Qdv,QQ7,List.length_singleton]
 have:=Qlh (QcV l) o
 omega
theorem Qi6 {c t:Int} (h:QiC ⟨c,t⟩):∀ {l:List Lst},(∀ x∈l,QiC x)->∀ x∈Qdt c t l,QiC x
 | [],_,x,hx=>by simp [Qdt] at hx;subst hx;exact h
 | y :: l,hl,x,hx=>by
  have hy:=hl y (by simp)
  have hl':∀ x∈l,QiC x:=fun z hz=>hl z (by simp [hz])
  unfold Qdt at hx
  split at hx
  ·rcases List.mem_cons.1 hx with g|g
   ·subst g
    obtain ⟨h1,h2,h3⟩:=h
    obtain ⟨k1,k2,k3⟩:=hy
    dsimp only at h1 h2 h3
    exact ⟨h1,by show 0<=max y.tick t;omega,by show max y.tick t<_;omega⟩
   ·exact hl' x g
  ·split at hx
   ·rcases List.mem_cons.1 hx with g|g
    ·subst g;exact h
    ·exact hl x g
   ·rcases List.mem_cons.1 hx with g|g
    ·subst g;exact hy
    ·exact Qi6 h hl' x g
theorem Qmc {o:Opn} (h:Qcc o):QiY (Qlk o):=by
 obtain ⟨h1,h2,h3,h4,h5,h6,h7⟩:=h
 have:=QlD h7
 exact ⟨h3,h4,h5,h2,h1,by show 0<=QbF o;unfold QbF;omega,by show QbF o<_;unfold QbF;omega⟩
theorem Qmo {s:Sta} {o:Opn} (hs:QdE s) (ho:Qcc o):QdE (QdY s o):=by
 obtain ⟨h1,h2,h3⟩:=hs
 refine ⟨?_,?_,?_⟩
 ·exact QgE h1 _ ho.1.2.1 ho.1.2.2
 ·intro e he
  unfold QdY at he
  dsimp only at he
  split at he
  ·rcases Qe8.1 he with g|g
   ·subst g;exact Qmc ho
   ·exact h2 e (List.mem_filter.1 g).1
  ·exact h2 e (List.mem_filter.1 he).1
 ·intro x hx
  exact Qi6 ⟨ho.2.2.1,ho.2.2.2.2.2.1⟩ h3 x hx
theorem QhA:QdE szero:=⟨QcC,(fun _ h=>by cases h),(fun _ h=>by cases h)⟩
theorem Seq.ok {l:List Opn} (h:Seq l):QdE (QcV l):=by
 induction h with
 | nil=>exact QhA
 | snoc h1 h2 h3 h4 h5 h6 ih=>rw [Qdv];exact Qmo ih h2
def Qjc (l:List Opn) (i j:Nat):Bool:=Qbu (gd l i).ctx (gd l j).dot&&!vle (gd l j).ctx (gd l i).ctx
def QbO (l:List Opn):Bool:=decide (l.length<=40)&&Qbe l&&((List.range l.length).all fun k=>decide (QbE (Qbc (l.take k)) (gd l k)=0))&&(List.range l.length).all fun i=>(List.range l.length).all fun j=>!Qjc l i j
theorem Qps {l:List Opn} (h:40<l.length):QbO l=false:=by unfold QbO;rw [QQ4 (p:=l.length<=40) (by omega)];rfl
theorem Qjh {l:List Opn} (h:Qbe l=false):QbO l=false:=by unfold QbO;rw [h];simp
theorem QkZ {l:List Opn} {k:Nat} (hk:k<l.length) (h:¬QbE (Qbc (l.take k)) (gd l k)=0):QbO l=false:=by
 rw [Bool.eq_false_iff]
 intro g
 unfold QbO at g
 simp only [Bool.and_eq_true,List.all_eq_true,List.mem_range,decide_eq_true_eq] at g
 exact h (g.1.2 k hk)
theorem Qm1 {l:List Opn} {i j:Nat} (hi:i<l.length) (hj:j<l.length) (h:Qjc l i j=true):QbO l=false:=by
 rw [Bool.eq_false_iff]
 intro g
 unfold QbO at g
 simp only [Bool.and_eq_true,List.all_eq_true,List.mem_range,decide_eq_true_eq,Bool.not_eq_true'] at g
 rw [g.2 i hi j hj] at h;cases h
theorem Qpy {l:List Opn} (h1:l.length<=40) (h2:Qbe l=true) (h3:∀ k,k<l.length->QbE (Qbc (l.take k)) (gd l k)=0) (h4:∀ i,i<l.length->∀ j,j<l.length->Qjc l i j=false):QbO l=true:=by
 unfold QbO
 simp only [Bool.and_eq_true,List.all_eq_true,List.mem_range,decide_eq_true_eq,Bool.not_eq_true']
 exact ⟨⟨⟨h1,h2⟩,h3⟩,h4⟩
theorem Qo5 {l:List Opn} (hl:∀ o∈l,Qcc o) (h:QbO l=true):l.length<=40/\Qbe l=true/\Seq l:=by
 unfold QbO at h
 simp only [Bool.and_eq_true,List.all_eq_true,List.mem_range,decide_eq_true_eq] at h
 exact ⟨h.1.1.1,h.1.1.2,Qta hl h.1.2⟩
theorem QkH {l:List Opn} {k:Nat} {v:Vec} (h:v=Qbc (l.take k)) (hk:k<l.length):vset v (gd l k).dot.rep.toNat (gd l k).dot.seq=Qbc (l.take (k+1)):=by rw [Qbx hk,Qc7,h]
end Go.Vx
namespace Go.Proofs
open Go Go.Vx Go.RowKit
namespace Tt
theorem Qt2 (a b:Line):EqF Tryz.prog 2 127 (.agg (lc a).toArray) (.agg (lc b).toArray) (decide (a=b)):=by
 rw [← QpB]
 exact Qfo (D:=1) Tryz.underlying127 Tryz.stoodInHeld127 (.cons (by decide) (Qbd ⟨Tryz.sizeOf32,Tryz.isAgg32⟩ rfl) (Qbd ⟨Tryz.sizeOf32,Tryz.isAgg32⟩ rfl) ((QdL Tryz.runUnderlying32).up (by decide)) (.cons (by decide) (Qbd ⟨Tryz.sizeOf22,Tryz.isAgg22⟩ rfl) (Qbd ⟨Tryz.sizeOf22,Tryz.isAgg22⟩ rfl) ((QdL Tryz.runUnderlying22).up (by decide)) .nil))
theorem QiS:El Tryz.prog 29 98 23 84:=⟨Tryz.underlying29,_,_,Tryz.type98,rfl,rfl,rfl,rfl,by decide⟩
theorem Qus:En Tryz.prog 111:=Tryz.call111
theorem QsD:En Tryz.prog 113:=Tryz.call113
theorem Qtl:En Tryz.prog 114:=Tryz.call114
theorem Qtz:En Tryz.prog 70:=Tryz.call70
theorem Qhi:FA Tryz.prog 49 0 0:=fun b o w=>by simp [Instr.fieldAt,Instr.sureAddr,fieldPlace,Qbi]
theorem Qcr:Ud Tryz.prog 29 (.slice 98):=Tryz.runUnderlying29
theorem Qdc:Ud Tryz.prog 47 (.slice 127):=Tryz.runUnderlying47
theorem QaN:Ud Tryz.prog 69 (.slice 32):=Tryz.runUnderlying69
theorem Qs9:Tryz.prog.underlying 29=some (.slice 98):=Tryz.underlying29
theorem Qt7:Tryz.prog.underlying 4=some (.bool):=Tryz.underlying4
end Tt
end Go.Proofs
namespace Go.Vx
def Qp0:Opn:=⟨⟨0,1⟩,1,3,4,2,5,vzero⟩
def QoS:Sta:=⟨vset vzero 0 1,[⟨3,4,2,1,⟨0,1⟩,1⟩],[⟨3,5⟩]⟩
theorem QqW:Qcc Qp0:=by
 refine ⟨⟨⟨by decide,by decide⟩,by decide,by decide⟩,⟨by decide,by decide⟩,⟨by decide,by decide⟩,⟨by decide,by decide⟩,⟨by decide,by decide⟩,⟨by decide,by decide⟩,QcC⟩
theorem Qvz:QaC QoS 3 (Qas QoS)=⟨3,[(⟨4,2⟩:Line)],false,5⟩:=by
 have h1:Qas QoS=true:=by decide +kernel
 rw [h1]
 show QkX QoS 3=_
 unfold QkX
 have h2:QfG (QeW QoS 3)=[4]:=by
  have h:=Qgf (QeW QoS 3)
  refine Qhy h.1 (List.pairwise_singleton _ _) fun x=>?_
  rw [h.2];rfl
 rw [h2];rfl
end Go.Vx
namespace Go.Proofs
open Go Go.Vx Go.RowKit
namespace Tt
theorem QlT:En Tryz.prog 33:=Tryz.call33
end Tt
end Go.Proofs
namespace Go.Vx
open Go.RowKit Go.ChangeShapes Go.WideShapes Go.ChangeAt
theorem QvE {P:Program} {t td tv:TypeId} {f0 f1 f2 f3 f4 f5 f6:Field} (ht:P.underlying t=some (.struct #[f0,f1,f2,f3,f4,f5,f6]))
  (hoff:[f0.offset,f1.offset,f2.offset,f3.offset,f4.offset,f5.offset,f6.offset]=[0,2,3,4,5,6,7])
  (hty:[f0.type,f6.type]=[td,tv])
  (hD:QeM P td dc Qc9) (hV:QeM P tv vc QbN)
  (u1:P.underlying f1.type=some (.int .u8)) (u2:P.underlying f2.type=some (.int .u16)) (u3:P.underlying f3.type=some (.int .u16)) (u4:P.underlying f4.type=some (.int .u16)) (u5:P.underlying f5.type=some (.int .u32))
  (hc:[P.cellsOf f0.type,P.cellsOf f1.type,P.cellsOf f2.type,P.cellsOf f3.type,P.cellsOf f4.type,P.cellsOf f5.type,P.cellsOf f6.type]=[2,1,1,1,1,1,16]) (hct:P.cellsOf t=23):QeM P t oc Qcc:=by
 intro H enc w base spare held fuel cs x h
 obtain ⟨xs,m,_,_,hl,hxl,hx⟩:=DataW.trod_struct ht h
 rw [hct] at hl
 have g0:=hx 0 f0 rfl
 have g1:=hx 1 f1 rfl
 have g2:=hx 2 f2 rfl
 have g3:=hx 3 f3 rfl
 have g4:=hx 4 f4 rfl
 have g5:=hx 5 f5 rfl
 have g6:=hx 6 f6 rfl
 have hx2:xs.length=7:=by simpa using hxl
 simp only [List.cons.injEq,and_true] at hoff hty hc
 obtain ⟨o0,o1,o2,o3,o4,o5,o6⟩:=hoff
 obtain ⟨c0,c1,c2,c3,c4,c5,c6⟩:=hc
 obtain ⟨t0,t6⟩:=hty
 rw [List.getElem?_eq_getElem (by omega)] at g0 g1 g2 g3 g4 g5 g6
 rw [o0,c0,t0] at g0
 rw [o1,c1] at g1
 rw [o2,c2] at g2
 rw [o3,c3] at g3
 rw [o4,c4] at g4
 rw [o5,c5] at g5
 rw [o6,c6,t6] at g6
 obtain ⟨d,hd,e0⟩:=hD _ _ _ _ _ _ _ _ _ g0
 obtain ⟨k,hk,e1⟩:=Qie u1 _ _ _ _ _ _ _ _ _ g1
 obtain ⟨c,hc',e2⟩:=Qie u2 _ _ _ _ _ _ _ _ _ g2
 obtain ⟨i,hi,e3⟩:=Qie u3 _ _ _ _ _ _ _ _ _ g3
 obtain ⟨q,hq,e4⟩:=Qie u4 _ _ _ _ _ _ _ _ _ g4
 obtain ⟨tk,htk,e5⟩:=Qie u5 _ _ _ _ _ _ _ _ _ g5
 obtain ⟨v,hv,e6⟩:=hV _ _ _ _ _ _ _ _ _ g6
 refine ⟨⟨d,k,c,i,q,tk,v⟩,⟨hd,Qqj hk,Qi5 hc',Qi5 hi,Qi5 hq,QiO htk,hv⟩,?_⟩
 match cs,hl with
 | x0 :: x1 :: x2 :: x3 :: x4 :: x5 :: x6 :: R,hR =>
  have e6':R=vc v:=by
   simp only [List.drop_succ_cons,List.drop_zero] at e6
   rw [List.take_of_length_le (by simp at hR;omega)] at e6;exact e6
  simp [ic,dc] at e0 e1 e2 e3 e4 e5
  rw [e0.1,e0.2,e1,e2,e3,e4,e5,e6']
  rfl
end Go.Vx
namespace Go.Vx
open Go.RowKit Go.ChangeShapes Go.WideShapes Go.ChangeAt
def pv3 (p:Vec × Vec × Vec):List Value:=vc p.1++vc p.2.1++vc p.2.2
theorem QvK {P:Program} {t el:TypeId} (ht:P.underlying t=some (.array 3 el)) (hV:QeM P el vc QbN) (hc:P.cellsOf el=16) (hct:P.cellsOf t=48):QeM P t pv3 (fun p=>QbN p.1/\QbN p.2.1/\QbN p.2.2):=by
 intro H enc w base spare held fuel cs x h
 obtain ⟨xs,m,_,_,hl,hxl,hx⟩:=DataW.trod_array ht h
 rw [hct] at hl
 have each:∀ i,i<3->∃ a,QbN a/\(cs.drop (i*16)).take 16=vc a:=by
  intro i hi
  have h1:=hx i hi
  rw [hc,List.getElem?_eq_getElem (by omega)] at h1
  exact hV _ _ _ _ _ _ _ _ _ h1
 obtain ⟨a,ha,e0⟩:=each 0 (by omega)
 obtain ⟨b,hb,e1⟩:=each 1 (by omega)
 obtain ⟨c,hc',e2⟩:=each 2 (by omega)
 refine ⟨(a,b,c),⟨ha,hb,hc'⟩,?_⟩
 unfold pv3
 dsimp only
 rw [← e0,← e1,← e2,Nat.zero_mul,List.drop_zero,Nat.one_mul]
 have h1:cs.take 16++(cs.drop 16).take 16=cs.take 32:=by rw [show 32=16+16 by rfl,List.take_add]
 rw [h1,List.take_of_length_le (l:=cs.drop (2*16)) (by rw [List.length_drop];omega),show 2*16=32 by rfl,List.take_append_drop]
end Go.Vx
namespace Go.Vx
section
variable {A B C A':List Value} {k:Nat}
theorem Qq4 (hA:A.length=k):((A++B++C).drop 0).take k=A:=by
 rw [List.drop_zero,List.append_assoc,List.take_append_of_le_length (by omega),List.take_of_length_le (by omega)]
theorem Qmj (hA:A.length=k) (hB:B.length=k):((A++B++C).drop k).take k=B:=by
 subst hA
 rw [List.append_assoc,List.drop_left,List.take_append_of_le_length (by omega),List.take_of_length_le (by omega)]
theorem QnC (hA:A.length=k) (hB:B.length=k) (hC:C.length=k):((A++B++C).drop (k+k)).take k=C:=by
 have e:k+k=(A++B).length:=by rw [QQ7];omega
 rw [e,List.drop_left,List.take_of_length_le (by omega)]
end
structure AnyP (s0 s1 s2 ab bc abc:Sta) (n:Nat):Prop where
 i01:QgA s0 s1=0
 r01:QgS s0 s1=ab
 i10:QgA s1 s0=0
 r10:QgS s1 s0=ab
 iab:QgA ab s2=0
 rab:QgS ab s2=abc
 i12:QgA s1 s2=0
 r12:QgS s1 s2=bc
 ibc:QgA s0 bc=0
 rbc:QgS s0 bc=abc
 i00:QgA s0 s0=0
 r00:QgS s0 s0=s0
 ok0:QdE s0/\s0.ents.length<=n/\s0.ticks.length<=n
 ok1:QdE s1/\s1.ents.length<=n/\s1.ticks.length<=n
 ok2:QdE s2/\s2.ents.length<=n/\s2.ticks.length<=n
 okab:QdE ab/\ab.ents.length<=n/\ab.ticks.length<=n
 okbc:QdE bc/\bc.ents.length<=n/\bc.ticks.length<=n
 okabc:abc.ents.length<=n/\abc.ticks.length<=n
end Go.Vx
namespace Go.Vx
theorem QkW (l:List Cen):(Qc8 l).length=l.length:=by
 refine Qbr (motive:=fun l=>(Qc8 l).length=l.length) rfl (fun l e ih=>?_) l
 rw [Qgv,Qhl,ih,QQ7];rfl
end Go.Vx
namespace Go.Vx
open Go.RowKit Go.Shelf
theorem Own.drewN {w0 w:World} {M:Nat->Prop} {L:List Res} (h:Own w0 M w L) (n:Nat):Own w0 M (w.drewN n) L:=by
 obtain ⟨a,b,c,d,e,S,f,g,i,j⟩:=h
 exact ⟨a,⟨b.1,Nat.le_trans b.2 (Nat.le_add_right _ _)⟩,c,d,e,S,fun k R hk=>R.loc w _ _ (fun _ _=>rfl) (f k R hk),g,i,j⟩
theorem QuD {P:Program} {J:Ren} (L:Go.Proofs.SlLaysF0.n48 P J) (T:TypeId) (w:World) (S:Nat->Prop) (rb X:Nat) (hX:X<18446744073709551616) (hR:(blk rb [.int .u64 (X:Int)] T).holds w S) (hlt:∀ x,S x->x<w.heap.size) :
  Calls P (J.f 48) #[.pointer (some ⟨rb,0,none⟩)] w (fun e w'=>∃ _u:Unit,e = .returned (.int .u64 ((Sort.xorNextN X:Nat):Int))/\Own w S w' [blk rb [.int .u64 ((Sort.xorNextN X:Nat):Int)] T]/\True):=by
 have hs:=Own.lent hR hlt
 have hb:=hR.2
 refine (Go.Proofs.AnyF.xorshift_Next L rb 0 X hX w ?_ ?_).mono ?_
 ·rw [cell_of_row w rb 0 _ T _ hb];rfl
 ·exact frozen_of_row w rb 0 _ T hb
 rintro e w' ⟨he,rfl⟩
 refine ⟨(),he,?_,trivial⟩
 rw [setCell_eq_setRow w rb 0 _ T (0,0) _ hb]
 exact (hs.set_blk 0 rfl (cs':=[.int .u64 ((Sort.xorNextN X:Nat):Int)])).drewN 3
theorem Qs6 {P:Program} {J:Ren} (L:Go.Proofs.SlLaysF0.n47 P J) (w:World) (n:Nat) (hn:n<4611686018427387904) :
  Calls P (J.f 47) #[.int .i64 (n:Int)] w (fun e w'=>e = .returned (.int .u64 (((1 <<< Sort.bitsLen n:Nat):Nat):Int))/\Own w no w' []) :=
 (Go.Proofs.AnyF.nextPowerOfTwo L n hn w).mono fun e w' ⟨he,hw⟩=>by subst hw;exact ⟨he,Own.start _⟩
theorem Qro {a b:Nat} (ha:a<18446744073709551616) (hb:b<18446744073709551616):bits .and .u64 (a:Int) (b:Int)=((a &&& b:Nat):Int):=bits_and_u64_nat a b ha hb
def bpS (lo len md:Nat) (s0:UInt64 × Array Int) (i0:Nat):Nat->UInt64 × Array Int
 | 0=>s0
 | q+1=>Sort.breakStep lo len md (bpS lo len md s0 i0 q) (i0+q)
def QgD (lo len md r:Nat):Nat:=if (Sort.xorNextN r &&& (md-1)) ≥ len then (Sort.xorNextN r &&& (md-1))-len else Sort.xorNextN r &&& (md-1)
theorem Qkd {lo len md i0 q:Nat} {s0:UInt64 × Array Int}:((bpS lo len md s0 i0 (q+1)).1.toNat=Sort.xorNextN (bpS lo len md s0 i0 q).1.toNat)/\(bpS lo len md s0 i0 (q+1)).2=Sort.swp (bpS lo len md s0 i0 q).2 (i0+q) (lo+QgD lo len md (bpS lo len md s0 i0 q).1.toNat):=by
 constructor
 ·show (Sort.xorNext _).toNat=_
  rw [Sort.xorNext_toNat]
 show Sort.swp _ _ _=_
 unfold QgD
 rw [← Sort.xorNext_toNat]
theorem QrN {d:Array Int} {lo hi:Nat} (h:8<=hi-lo):(bpS lo (hi-lo) (1 <<< Sort.bitsLen (hi-lo)) (UInt64.ofNat (hi-lo),d) (lo+((hi-lo)/4)*2-1) 3).2=Sort.breakPatterns d lo hi:=by
 unfold Sort.breakPatterns
 dsimp only
 rw [if_pos h]
 rfl
theorem Qsx {n:Nat} (h:0<n):n<1 <<< Sort.bitsLen n/\1 <<< Sort.bitsLen n<=2*n:=by
 rw [Nat.one_shiftLeft];exact ⟨Sort.lt_two_pow_bitsLen n,Sort.two_pow_bitsLen_le h⟩
theorem QoC {lo len r:Nat} (h:0<len):QgD lo len (1 <<< Sort.bitsLen len) r<len:=by
 have hm:=Qsx h
 have:=Nat.and_le_right (n:=Sort.xorNextN r) (m:=1 <<< Sort.bitsLen len-1)
 unfold QgD;split<;>omega
end Go.Vx
namespace Go.Vx
open Go.RowKit Go.Shelf
def QqQ (P:Program) (f T:Nat):Prop:=∀ (w:World) (S:Nat->Prop) (rb X:Nat),X<18446744073709551616->(blk rb [.int .u64 (X:Int)] T).holds w S->(∀ x,S x->x<w.heap.size) ->
  Calls P f #[.pointer (some ⟨rb,0,none⟩)] w (fun e w'=>∃ _u:Unit,e = .returned (.int .u64 ((Sort.xorNextN X:Nat):Int))/\Own w S w' [blk rb [.int .u64 ((Sort.xorNextN X:Nat):Int)] T]/\True)
def Qr5 (P:Program) (f:Nat):Prop:=∀ (w:World) (n:Nat),n<4611686018427387904->Calls P f #[.int .i64 (n:Int)] w (fun e w'=>e = .returned (.int .u64 (((1 <<< Sort.bitsLen n:Nat):Nat):Int))/\Own w no w' [])
def Qvl (P:Program) (f:Nat):Prop:=∀ (w:World) (n:Nat),n<4611686018427387904->Calls P f #[.int .u64 (n:Int)] w (fun e w'=>e = .returned (.int .i64 ((Sort.bitsLen n:Nat):Int))/\Own w no w' [])
theorem Qkl {lo len md i0 N:Nat} {s0:UInt64 × Array Int} (h:s0.2.size=N):∀ q,(bpS lo len md s0 i0 q).2.size=N
 | 0=>h
 | q+1=>by rw [Qkd.2,Sort.size_swp];exact Qkl h q
end Go.Vx
namespace Go.Vx
open Go.RowKit
def QgI (P:Program) (f:Nat) (k:IntKind) (E:Nat):Prop:=∀ (w:World) (S:Nat->Prop) (a:Option Addr) (c:Nat) (l:List Int),(row (.slice a l.length c) (l.map (ic k)) E 1).holds w S->(∀ x,S x->x<w.heap.size)->l.length<=2305843009213693951 ->
  Calls P f #[.slice a l.length c] w fun e w'=>e = .returned (.tuple #[])/\Own w S w' [row (.slice a l.length c) ((Qa7 l).map (ic k)) E 1]
end Go.Vx
namespace Go.Proofs
open Go Go.Vx Go.RowKit
namespace Tt
theorem Qtm:T1 Tryz.prog 211:=⟨Tryz.sizeOf211,Tryz.isAgg211⟩
theorem QtS:En Tryz.prog 134:=Tryz.call134
theorem QnI:En Tryz.prog 160:=Tryz.call160
theorem QtK:En Tryz.prog 162:=Tryz.call162
theorem Qtn:En Tryz.prog 163:=Tryz.call163
theorem QsQ:En Tryz.prog 172:=Tryz.call172
theorem Qsp:En Tryz.prog 173:=Tryz.call173
theorem Qt5:En Tryz.prog 174:=Tryz.call174
theorem Qs1:En Tryz.prog 175:=Tryz.call175
theorem Qtk:En Tryz.prog 176:=Tryz.call176
theorem QtP:En Tryz.prog 177:=Tryz.call177
theorem Qda:En Tryz.prog 178:=Tryz.call178
theorem Qsr:En Tryz.prog 179:=Tryz.call179
theorem QuA:En Tryz.prog 180:=Tryz.call180
theorem Qqh:En Tryz.prog 185:=Tryz.call185
theorem Qnn:En Tryz.prog 186:=Tryz.call186
theorem QmI:En Tryz.prog 187:=Tryz.call187
theorem QlG:En Tryz.prog 189:=Tryz.call189
theorem Qvn:En Tryz.prog 92:=Tryz.call92
theorem Qtg:Ud Tryz.prog 211 (.int .u64):=Tryz.runUnderlying211
theorem Qte:Zv Tryz.prog 211 (.int .u64 0):=Tryz.zeroValue211
theorem Qwe:Zv Tryz.prog 3 (.int .i64 0):=Tryz.zeroValue3
end Tt
end Go.Proofs
namespace Go.Proofs
open Go Go.Vx Go.RowKit
namespace Tt
theorem QrY:T1 Tryz.prog 69:=⟨Tryz.sizeOf69,Tryz.isAgg69⟩
theorem Qub:En Tryz.prog 133:=Tryz.call133
theorem QtN:En Tryz.prog 159:=Tryz.call159
theorem QvZ:En Tryz.prog 44:=Tryz.call44
theorem QuH:En Tryz.prog 84:=Tryz.call84
theorem Qvu:En Tryz.prog 89:=Tryz.call89
theorem QpH:KeyOk Tryz.prog 32 (Value.int .u16):=QlF Tryz.runUnderlying32 _
end Tt
end Go.Proofs
namespace Go.Vx
structure Pst where
 base:Sta
 ops:List Opn
 known:Vec
def QjQ (kn:Vec) (l:List Opn) (i:Nat):Bool:=!Qa8 (gd l i) 16||Qbu kn (gd l i).dot||((l.take i).any fun x=>decide (x.dot=(gd l i).dot))
def Qco (p:Pst):Bool:=((List.range p.ops.length).all fun i=>!QjQ p.base.known p.ops i)&&Qas p.base
def QaK (p:Pst) (cut:Vec):Int:=if Qco p=false then 2 else if QaR cut 16=false then 13 else if vle cut p.known=false then 11 else if vle p.base.known cut=false then 12 else 0
theorem Qg8 {p:Pst} {i:Nat} (hi:i<p.ops.length) (h:QjQ p.base.known p.ops i=true):Qco p=false:=by
 unfold Qco
 have:((List.range p.ops.length).all fun i=>!QjQ p.base.known p.ops i)=false:=by
  rw [List.all_eq_false];exact ⟨i,List.mem_range.2 hi,by simp [h]⟩
 rw [this];rfl
theorem Qf7 {p:Pst} (h:∀ i,i<p.ops.length->QjQ p.base.known p.ops i=false):Qco p=Qas p.base:=by
 unfold Qco
 have:((List.range p.ops.length).all fun i=>!QjQ p.base.known p.ops i)=true:=by
  rw [List.all_eq_true];intro i hi;simp [h i (List.mem_range.1 hi)]
 rw [this,Bool.true_and]
def Qdq (p:Pst):Prop:=QdE p.base/\(∀ o∈p.ops,Qcc o)/\QbN p.known
def QeQ (b:Bool):Int:=if b=true then 1 else 0
def Qia (l:List Opn):List (Dot × Unit):=l.foldl (fun m e=>mput e.dot () m) []
theorem QgO (l:List Opn) (e:Opn):Qia (l++[e])=mput e.dot () (Qia l):=by unfold Qia;rw [List.foldl_append];rfl
theorem Qih (l:List Opn) (d:Dot):(mget d (Qia l)).isSome=l.any fun x=>decide (x.dot=d):=by
 refine Qbr (motive:=fun l=>(mget d (Qia l)).isSome=l.any fun x=>decide (x.dot=d)) rfl (fun l a ih=>?_) l
 rw [QgO,Qgh,ih,List.any_append]
 simp only [List.any_cons,List.any_nil,Bool.or_false]
 rw [Bool.or_comm,show decide (d=a.dot)=decide (a.dot=d) from decide_eq_decide.2 eq_comm]
theorem Qk7 {l:List Opn} {k:Nat} (hk:k<l.length):Qia (l.take (k+1))=mput (gd l k).dot () (Qia (l.take k)):=by rw [Qbx hk,QgO]
structure OpsC (kn:Vec) (l:List Opn):Prop where
 ok:∀ o∈l,Qcy o=true
 fr:∀ o∈l,Qbu kn o.dot=false
 nd:(l.map (·.dot)).Nodup
theorem Qth {kn:Vec} {l:List Opn} (h:∀ i,i<l.length->QjQ kn l i=false):OpsC kn l:=by
 have h3:∀ i,i<l.length->Qcy (gd l i)=true/\Qbu kn (gd l i).dot=false/\((l.take i).any fun x=>decide (x.dot=(gd l i).dot))=false:=fun i hi=>by
  have:=h i hi
  unfold QjQ at this
  rw [Bool.or_eq_false_iff,Bool.or_eq_false_iff] at this
  exact ⟨by rw [← Qb3];simpa using this.1.1,this.1.2,this.2⟩
 refine ⟨fun o ho=>?_,fun o ho=>?_,?_⟩
 ·obtain ⟨i,hi,rfl⟩:=List.mem_iff_getElem.1 ho
  have:=(h3 i hi).1;simpa [gd,hi] using this
 ·obtain ⟨i,hi,rfl⟩:=List.mem_iff_getElem.1 ho
  have:=(h3 i hi).2.1;simpa [gd,hi] using this
 refine List.pairwise_iff_getElem.2 fun i j hi hj hij=>?_
 rw [QQ6] at hi hj
 rw [List.getElem_map,List.getElem_map]
 intro e
 have h4:=(h3 j hj).2.2
 rw [List.any_eq_false] at h4
 have h5:=h4 l[i] (List.mem_take_iff_getElem.2 ⟨i,by omega,rfl⟩)
 simp [gd,hj] at h5
 exact h5 e
theorem QcK {p:Pst} (h:Qco p=true):OpsC p.base.known p.ops/\RightC p.base:=by
 have hb:∀ i,i<p.ops.length->QjQ p.base.known p.ops i=false:=fun i hi=>by
  cases e:QjQ p.base.known p.ops i with
  | false=>rfl
  | true=>rw [Qg8 hi e] at h;cases h
 exact ⟨Qth hb,Qcx.1 (by rw [← Qf7 hb];exact h)⟩
theorem Qdz {p:Pst} {cut:Vec} (h:QaK p cut=0):Qco p=true/\QaR cut 16=true/\vle cut p.known=true/\vle p.base.known cut=true:=by
 unfold QaK at h
 cases h1:Qco p<;>cases h2:QaR cut 16<;>cases h3:vle cut p.known<;>cases h4:vle p.base.known cut<;>simp [h1,h2,h3,h4] at h ⊢
def QgM (u:List Opn) (x:Cen):Bool:=!(u.any fun o=>QaE o (QaH x))
def Qb0 (b:List Cen) (u:List Opn):List Cen:=b++(u.filter Qbz).map Qlk
def QiI (b:List Cen) (u:List Opn):List Cen:=Qc8 ((Qb0 b u).filter (QgM u))
def QbT (s:List Lst) (u:List Opn):List Lst:=u.foldl (fun m o=>Qdt o.cart o.tick m) s
def Qg6 (p:Pst) (cut:Vec):Sta:=⟨cut,QiI p.base.ents (Qaz p.ops cut),QbT p.base.ticks (Qaz p.ops cut)⟩
def Qah (p:Pst) (cut:Vec):Sta:=if QaK p cut=0 then Qg6 p cut else szero
theorem QbY (s:List Lst) (u:List Opn) (o:Opn):QbT s (u++[o])=Qdt o.cart o.tick (QbT s u):=by unfold QbT;rw [List.foldl_append];rfl
theorem Qcw {s:List Lst} (hs:QdC s):∀ u:List Opn,QdC (QbT s u):=by
 refine Qbr (motive:=fun t=>QdC (QbT s t)) hs fun t x ih=>?_
 rw [QbY];exact Qhk ih
theorem Qk2 {s:List Lst}:∀ u:List Opn,(QbT s u).length<=s.length+u.length:=by
 refine Qbr (motive:=fun t=>(QbT s t).length<=s.length+t.length) (Nat.le_refl _) fun t x ih=>?_
 rw [QbY,QQ7]
 have:=Qhr (c:=x.cart) (t:=x.tick) (QbT s t)
 simp;omega
theorem Qjf {p:Pst} (h:Qco p=true) (cut:Vec):((Qb0 p.base.ents (Qaz p.ops cut)).map (·.dot)).Nodup:=by
 obtain ⟨ho,hb⟩:=QcK h
 unfold Qb0
 rw [List.map_append,List.nodup_append]
 refine ⟨hb.nd,?_,?_⟩
 ·rw [List.map_map]
  exact ho.nd.sublist ((List.filter_sublist.trans List.filter_sublist).map _)
 intro d hd e he hde
 subst hde
 obtain ⟨x,hx,rfl⟩:=List.mem_map.1 hd
 rw [List.map_map] at he
 obtain ⟨o,hoM,e2⟩:=List.mem_map.1 he
 have h1:=ho.fr o (Qb9 (List.mem_filter.1 hoM).1)
 have h2:=hb.ent x hx
 unfold QjT at h2
 simp only [Bool.and_eq_true] at h2
 have h3:o.dot=x.dot:=e2
 rw [h3,h2.1.1.2] at h1
 cases h1
theorem Qdy {p:Pst} (h:Qco p=true) (cut:Vec):(((Qb0 p.base.ents (Qaz p.ops cut)).filter (QgM (Qaz p.ops cut))).map (·.dot)).Nodup :=
 (Qjf h cut).sublist (List.filter_sublist.map _)
theorem Qo9 {p:Pst} (h:Qco p=true) {cut:Vec} {m:List Cen} (hm:Qkt ((Qb0 p.base.ents (Qaz p.ops cut)).filter (QgM (Qaz p.ops cut))) m):m=QiI p.base.ents (Qaz p.ops cut) :=
 QqB (Qdy h cut) hm
theorem Qii {p:Pst} (h:Qco p=true) (cut:Vec) (x:Cen):x∈(Qg6 p cut).ents↔x∈Qb0 p.base.ents (Qaz p.ops cut)/\QgM (Qaz p.ops cut) x=true:=by
 show x∈QiI _ _↔_
 unfold QiI
 rw [(QdA _ (Qdy h cut)).2,List.mem_filter]
def tk0 (ts:List Lst):List (Int × Int):=ts.foldl (fun m x=>mput x.cart x.tick m) []
def tkM (m:List (Int × Int)) (u:List Opn):List (Int × Int):=u.foldl (fun m o=>mput o.cart (max ((mget o.cart m).getD 0) o.tick) m) m
theorem Qph {ts:List Lst} {k:Nat} (hk:k<ts.length):tk0 (ts.take (k+1))=mput (gd ts k).cart (gd ts k).tick (tk0 (ts.take k)):=by
 rw [Qbx hk];unfold tk0;rw [List.foldl_append];rfl
theorem Qhh (m:List (Int × Int)) (u:List Opn) (o:Opn):tkM m (u++[o])=mput o.cart (max ((mget o.cart (tkM m u)).getD 0) o.tick) (tkM m u):=by unfold tkM;rw [List.foldl_append];rfl
theorem Qkm {k v:Int} {m:List (Int × Int)} (h:(m.map (·.1)).Nodup):((mput k v m).map (·.1)).Nodup:=by
 rw [Qcz]
 split
 ·exact h
 rename_i hn
 rw [List.nodup_append]
 exact ⟨h,by simp,fun a ha b hb e=>by simp at hb;subst hb;subst e;exact hn ha⟩
theorem QkB {ts:List Lst} {x:Lst} (h:∀ y∈ts,y.cart<x.cart) (c:Int):QaJ (ts++[x]) c=if c=x.cart then some x.tick else QaJ ts c:=by
 unfold QaJ
 rw [List.find?_append]
 by_cases e:c=x.cart
 ·rw [if_pos e]
  have:(ts.find? fun y=>decide (y.cart=c))=none:=List.find?_eq_none.2 fun y hy=>by have:=h y hy;simp;omega
  rw [this];simp [e]
 rw [if_neg e]
 have:([x].find? fun y=>decide (y.cart=c))=none:=by simp;omega
 rw [this,Option.or_none]
theorem Qqg:∀ ts:List Lst,QdC ts->((tk0 ts).map (·.1)).Nodup/\(∀ c,mget c (tk0 ts)=QaJ ts c)/\(tk0 ts).length<=ts.length:=by
 refine Qbr (motive:=fun ts=>QdC ts->((tk0 ts).map (·.1)).Nodup/\(∀ c,mget c (tk0 ts)=QaJ ts c)/\(tk0 ts).length<=ts.length) (fun _=>⟨by simp [tk0],fun c=>rfl,Nat.le_refl _⟩) fun ts x ih hr=>?_
 obtain ⟨hr1,hr2⟩:QdC ts/\∀ y∈ts,y.cart<x.cart:=by
  unfold QdC at hr;rw [List.pairwise_append] at hr
  exact ⟨hr.1,fun y hy=>hr.2.2 y hy x (by simp)⟩
 obtain ⟨h1,h2,h3⟩:=ih hr1
 have e:tk0 (ts++[x])=mput x.cart x.tick (tk0 ts):=by unfold tk0;rw [List.foldl_append];rfl
 rw [e]
 refine ⟨Qkm h1,fun c=>?_,?_⟩
 ·rw [Qem,QkB hr2,h2]
 have:=Qkw (k:=x.cart) (v:=x.tick) (l:=tk0 ts);rw [QQ7,List.length_singleton];omega
theorem Qqe {s:List Lst} {m:List (Int × Int)} (hs:QdC s) (hn:(m.map (·.1)).Nodup) (hm:∀ c,mget c m=QaJ s c):∀ u:List Opn,(∀ o∈u,0<=o.tick)->((tkM m u).map (·.1)).Nodup/\(∀ c,mget c (tkM m u)=QaJ (QbT s u) c)/\(tkM m u).length<=m.length+u.length:=by
 refine Qbr (motive:=fun u=>(∀ o∈u,0<=o.tick)->((tkM m u).map (·.1)).Nodup/\(∀ c,mget c (tkM m u)=QaJ (QbT s u) c)/\(tkM m u).length<=m.length+u.length) (fun _=>⟨hn,hm,Nat.le_refl _⟩) fun u o ih ho=>?_
 obtain ⟨h1,h2,h3⟩:=ih fun x hx=>ho x (List.mem_append_left _ hx)
 rw [Qhh,QbY]
 refine ⟨Qkm h1,fun c=>?_,?_⟩
 ·rw [Qem,QcP (Qcw hs u),h2]
  have h0:=ho o (by simp)
  by_cases e:c=o.cart
  ·rw [if_pos e,if_pos e]
   cases QaJ (QbT s u) o.cart with
   | none=>simp;omega
   | some t=>rfl
  rw [if_neg e,if_neg e,h2]
 have:=Qkw (k:=o.cart) (v:=max ((mget o.cart (tkM m u)).getD 0) o.tick) (l:=tkM m u);rw [QQ7,List.length_singleton];omega
def tkL (m:List (Int × Int)) (n:Int):Lst:=⟨n,(mget n m).getD 0⟩
theorem Qnq {t:List Lst} {m:List (Int × Int)} (ht:QdC t) (hn:(m.map (·.1)).Nodup) (hm:∀ c,mget c m=QaJ t c):(Qa7 (m.map (·.1))).map (tkL m)=t:=by
 have hr:QdC ((Qa7 (m.map (·.1))).map (tkL m)):=List.pairwise_map.2 (QfB hn)
 refine Qka hr ht fun c=>?_
 by_cases e:c∈m.map (·.1)
 ·have h1:tkL m c∈(Qa7 (m.map (·.1))).map (tkL m):=List.mem_map.2 ⟨c,Qgy.2 e,rfl⟩
  have h2:=(Qej hr (tkL m c)).1 h1
  have h3:(mget c m).isSome=true:=by rw [QcD];simpa using e
  have h4:QaJ ((Qa7 (m.map (·.1))).map (tkL m)) c=some ((mget c m).getD 0):=h2
  rw [h4,← hm]
  cases h5:mget c m with
  | none=>rw [h5] at h3;cases h3
  | some v=>rfl
 have h3:(mget c m).isSome=false:=by rw [QcD];simpa using e
 have h5:mget c m=none:=by cases h5:mget c m with|none=>rfl|some v=>rw [h5] at h3;cases h3
 rw [← hm,h5]
 unfold QaJ
 rw [List.find?_eq_none.2 fun y hy=>?_]
 ·rfl
 obtain ⟨n,hn1,rfl⟩:=List.mem_map.1 hy
 have:=Qgy.1 hn1
 intro e2
 have e3:n=c:=QQ1 e2
 subst e3;exact e this
theorem Qi8 {p:Pst} (h:Qco p=true) (ho:∀ o∈p.ops,Qcc o) (u:List Opn) (hu:∀ o∈u,o∈p.ops):(Qa7 ((tkM (tk0 p.base.ticks) u).map (·.1))).map (tkL (tkM (tk0 p.base.ticks) u))=QbT p.base.ticks u:=by
 obtain ⟨hc,hb⟩:=QcK h
 obtain ⟨h1,h2,_⟩:=Qqg _ hb.rt
 obtain ⟨g1,g2,_⟩:=Qqe hb.rt h1 h2 u fun o hm=>(ho o (hu o hm)).2.2.2.2.2.1.1
 exact Qnq (Qcw hb.rt u) g1 g2
theorem Qk4:∀ {l:List Cen},Qhx l->(l.map (·.dot)).Nodup->Qc8 l=l:=by
 intro l hl hn
 exact QiR (QdA l hn).1 hl (QdA l hn).2
end Go.Vx
namespace Go.Vx
theorem Qla {b:List Cen} {u:List Opn} {o:Opn} (h:Qbz o=true):Qb0 b u++[Qlk o]=Qb0 b (u++[o]):=by
 unfold Qb0;rw [List.filter_append,List.map_append,List.append_assoc];simp [h]
theorem QnP {b:List Cen} {u:List Opn} {o:Opn} (h:Qbz o=false):Qb0 b u=Qb0 b (u++[o]):=by
 unfold Qb0;rw [List.filter_append,List.map_append];simp [h]
theorem Qfh {b:List Cen} {u:List Opn} {x:Cen} (h:x∈Qb0 b u):x∈b∨∃ o∈u,Qbz o=true/\x=Qlk o:=by
 unfold Qb0 at h
 rcases List.mem_append.1 h with h|h
 ·exact .inl h
 obtain ⟨o,ho,rfl⟩:=List.mem_map.1 h
 have:=List.mem_filter.1 ho
 exact .inr ⟨o,this.1,this.2,rfl⟩
theorem QkO {p:Pst} (hok:Qdq p) {u:List Opn} (hu:∀ o∈u,o∈p.ops):∀ x∈Qb0 p.base.ents u,Qc9 x.dot:=by
 intro x hx
 rcases Qfh hx with h|⟨o,ho,_,rfl⟩
 ·exact (hok.1.2.1 x h).2.2.2.2.1
 exact (hok.2.1 o (hu o ho)).1
theorem Qld (b:List Cen) (u:List Opn):(Qb0 b u).length<=b.length+u.length:=by
 unfold Qb0;rw [QQ7,QQ6];have:=List.length_filter_le Qbz u;omega
theorem QlA {p:Pst} {cut:Vec} (h:¬QaK p cut=0):Qah p cut=szero:=if_neg h
theorem QkY {p:Pst} {cut:Vec} {u:List Opn} {m:List Cen} {T:List Lst} (hok:Qdq p) (hI:QaK p cut=0) (hu:u=Qaz p.ops cut) (hm:Qkt ((Qb0 p.base.ents u).filter (QgM u)) m) (hT:T=(Qa7 ((tkM (tk0 p.base.ticks) u).map (·.1))).map (tkL (tkM (tk0 p.base.ticks) u))):Qah p cut=⟨cut,m,T⟩:=by
 have hr:=(Qdz hI).1
 subst hu
 have hE:=Qo9 hr hm
 have hT2:=Qi8 hr hok.2.1 (Qaz p.ops cut) fun o h=>Qb9 h
 unfold Qah;rw [if_pos hI,hE,hT,hT2];rfl
theorem Qse {p:Pst} (hok:Qdq p) (h:Qco p=true) (u:List Opn) (hu:∀ o∈u,o∈p.ops):(tkM (tk0 p.base.ticks) u).length<=p.base.ticks.length+u.length:=by
 obtain ⟨hc,hb⟩:=QcK h
 obtain ⟨h1,h2,h3⟩:=Qqg _ hb.rt
 obtain ⟨g1,g2,g3⟩:=Qqe hb.rt h1 h2 u fun o hm=>(hok.2.1 o (hu o hm)).2.2.2.2.2.1.1
 omega
end Go.Vx
namespace Go.Vx
theorem Qju {p:Pst} {cut:Vec} {u:List Opn} {L m:List Cen} {T:List Lst} {tm:List (Int × Int)} (hok:Qdq p) (hI:QaK p cut=0) (hu:u=Qaz p.ops cut) (hL:L=Qb0 p.base.ents u) (hm:Qkt (L.filter (QgM u)) m) (ht:tm=tkM (tk0 p.base.ticks) u) (hT:T=(Qa7 (tm.map (·.1))).map (tkL tm)):Qah p cut=⟨cut,m,T⟩:=by
 subst hL;subst ht
 exact QkY hok hI hu hm hT
end Go.Vx
namespace Go.Proofs
open Go Go.Vx Go.RowKit
namespace Tt
theorem Qi4:T1 Tryz.prog 29:=⟨Tryz.sizeOf29,Tryz.isAgg29⟩
theorem QcZ:TA Tryz.prog 43 35:=⟨Tryz.sizeOf43,Tryz.isAgg43⟩
theorem QuJ:En Tryz.prog 59:=Tryz.call59
theorem Qd1:FA Tryz.prog 43 0 0:=fun b o w=>by simp [Instr.fieldAt,Instr.sureAddr,fieldPlace,Qbi]
theorem QhL:FA Tryz.prog 43 1 18:=fun b o w=>by simp [Instr.fieldAt,Instr.sureAddr,fieldPlace,Qbi]
theorem Qi7:FA Tryz.prog 43 2 19:=fun b o w=>by simp [Instr.fieldAt,Instr.sureAddr,fieldPlace,Qbi]
end Tt
end Go.Proofs
namespace Go.Vx
open Go.RowKit
abbrev Str:=List UInt8
abbrev sv (l:Str):Value:=.string ⟨l.toArray⟩
def sc (l:Str):List Value:=[sv l]
end Go.Vx
namespace Go.Vx
open Go.RowKit
abbrev Pt:=Option Addr
abbrev pt (p:Nat):Pt:=some ⟨p,0,none⟩
structure Thg where
 p:Nat
 bs:List Int
 sf:Nat
structure Chg where
 to:Str
 fr:Str
 t:Pt
structure Dk where
 room:Int
 ts:List Thg
 nm:List (Str × Pt)
 sf:List (Str × Pt)
 ch:List Chg
instance:Inhabited Thg:=⟨⟨0,[],0⟩⟩
instance:Inhabited Chg:=⟨⟨[],[],none⟩⟩
def pts (ts:List Thg):List Pt:=ts.map fun t=>pt t.p
def doC (l:List (Str × Pt)) (c:Chg):List (Str × Pt) :=
 let l1:=if c.fr=[] then l else mdel c.fr l
 match c.t with
 | none=>mdel c.to l1
 | some a=>mput c.to (some a) l1
def QgN (l:List (Str × Pt)) (cs:List Chg):List (Str × Pt):=cs.foldl doC l
def Qv7 (m:Dk) (c:Chg):Dk:={ m with nm:=doC m.nm c,ch:=m.ch++[c] }
section
variable (TD TT U8 TP TC:Nat)
def thP (t:Thg) (a:Option Addr) (c:Nat):List Res:=[blk t.p [.slice a t.bs.length c,.int .i64 ((t.sf:Nat):Int)] TT,row (.slice a t.bs.length c) (t.bs.map (ic .u8)) U8 1]
def thR (t:Thg):Res:=exR fun x:Option Addr × Nat=>star (thP TT U8 t x.1 x.2)
structure DkA where
 a:Option Addr
 c:Nat
 r1:Nat
 r2:Nat
 a2:Option Addr
 c2:Nat
end
section
variable {TD TT U8 TP TC:Nat} {w w0:World} {M:Nat->Prop} {L:List Res}
theorem QpA {w:World} {S:Nat->Prop}:∀ {ts:List Thg},(star (ts.map (thR TT U8))).holds w S->(ts.map (·.p)).Nodup/\∀ t∈ts,S t.p:=by
 intro ts ⟨T,t1,t2,t3⟩
 have h1:∀ (i:Nat) t,ts[i]?=some t->T i t.p:=by
  intro i t hi
  obtain ⟨x,T2,u1,u2,u3⟩:=t1 i (thR TT U8 t) (by rw [List.getElem?_map,hi];rfl)
  have:=(u1 0 _ rfl).1
  exact (u3 _).2 ⟨0,by simp [thP],this⟩
 refine ⟨?_,fun t ht=>?_⟩
 ·unfold List.Nodup
  rw [List.pairwise_iff_getElem]
  intro i j hi hj hij he
  simp only [QQ6] at hj
  simp only [List.getElem_map] at he
  have a1:=h1 i _ (List.getElem?_eq_getElem (Nat.lt_trans hij hj))
  have a2:=h1 j _ (List.getElem?_eq_getElem hj)
  rw [he] at a1
  have:=t2 i j _ a1 a2
  omega
 obtain ⟨i,hi⟩:=List.mem_iff_getElem?.1 ht
 exact (t3 _).2 ⟨i,by have:=QaT hi;simpa using this,h1 i t hi⟩
theorem Own.things (h:Own w0 M w L) (k:Nat) {ts:List Thg} (hk:L[k]?=some (star (ts.map (thR TT U8)))):(ts.map (·.p)).Nodup:=by
 obtain ⟨S,hS,_⟩:=h.get k hk
 exact (QpA hS).1
def ThF (w:World) (ts:List Thg):Prop:=∀ t∈ts,∃ a c,Qca w t.p [.slice a t.bs.length c,.int .i64 ((t.sf:Nat):Int)]/\Rd w (.slice a t.bs.length c) 1 (t.bs.map (ic .u8))
theorem ThF.own' {ts:List Thg} (h:ThF w0 ts) (hs:Own w0 no w L):ThF w ts:=fun t ht=>by
 obtain ⟨a,c,h1,h2⟩:=h t ht
 exact ⟨a,c,h1.own' hs,h2.own' hs⟩
end
end Go.Vx
namespace Go.Vx
open Go.RowKit
theorem Qrm {ts:List Thg} {i:Nat} {t t':Thg} (hi:ts[i]?=some t) (hp:t'.p=t.p):pts (ts.set i t')=pts ts:=by
 unfold pts
 rw [List.map_set,hp]
 apply List.ext_getElem?
 intro j
 rw [List.getElem?_set]
 by_cases q:i=j
 ·subst q;have:=QaT hi;simp [this,List.getElem?_eq_getElem this] at hi ⊢;rw [hi]
 rw [if_neg q]
def Qv4 (m:Dk) (s:Str) (p:Nat) (bs:List Int):Dk:={ m with ts:=m.ts++[⟨p,bs,0⟩],nm:=doC m.nm ⟨s,[],pt p⟩,ch:=m.ch++[⟨s,[],pt p⟩] }
end Go.Vx
namespace Go.Vx
open Go.RowKit
section
variable {κ ν:Type} [DecidableEq κ]
theorem Qgd (k:κ) (v:ν):∀ (l:List (κ × ν)),(mput k v l).map (·.1)=if k∈l.map (·.1) then l.map (·.1) else l.map (·.1)++[k]
 | []=>by simp [mput]
 | (a,b) :: l=>by
  unfold mput
  split
  ·rename_i e;subst e;simp
  rename_i e
  simp only [List.map_cons,Qgd k v l,List.mem_cons,e,false_or]
  split<;>simp
theorem Qeg {k:κ} {v:ν} {x:κ × ν}:∀ {l:List (κ × ν)},x∈mput k v l->x=(k,v)∨x∈l
 | [],h=>by simp [mput] at h;exact .inl h
 | (a,b) :: l,h=>by
  unfold mput at h
  split at h
  ·rcases List.mem_cons.1 h with e|e
   ·exact .inl e
   exact .inr (List.mem_cons_of_mem _ e)
  rcases List.mem_cons.1 h with e|e
  ·exact .inr (e ▸ List.mem_cons_self)
  rcases Qeg e with e|e
  ·exact .inl e
  exact .inr (List.mem_cons_of_mem _ e)
theorem Qf4 {k:κ} {v:ν}:∀ {l:List (κ × ν)},(l.map (·.2)).Nodup->v ∉ l.map (·.2)->((mput k v l).map (·.2)).Nodup
 | [],_,_=>by simp [mput]
 | (a,b) :: l,hn,hv=>by
  simp only [List.map_cons,List.nodup_cons,List.mem_cons,not_or] at hn hv
  unfold mput
  split
  ·simp only [List.map_cons,List.nodup_cons];exact ⟨hv.2,hn.2⟩
  simp only [List.map_cons,List.nodup_cons]
  refine ⟨fun h=>?_,Qf4 hn.2 hv.2⟩
  obtain ⟨x,hx,he⟩:=List.mem_map.1 h
  rcases Qeg hx with e|e
  ·subst e;exact hv.1 he
  exact hn.1 (List.mem_map.2 ⟨x,e,he⟩)
theorem QgB {k:κ} {v:ν} {j:κ}:∀ {l:List (κ × ν)},mget j (mput k v l)=if j=k then some v else mget j l
 | []=>by unfold mput mget;simp [mget]
 | (a,b) :: l=>by
  unfold mput
  split
  ·rename_i e;subst e
   unfold mget
   by_cases h:j=k<;>simp [h]
  rename_i e
  unfold mget
  by_cases h:j=a
  ·subst h;simp [show ¬j=k from fun e2=>e e2.symm]
  rw [if_neg h,QgB];simp [h]
end
structure KOk (ts:List Thg) (l:List (Str × Pt)):Prop where
 keys:(l.map (·.1)).Nodup
 vals:(l.map (·.2)).Nodup
 some:∀ x∈l,x.2∈pts ts
 long:∀ x∈l,1<=x.1.length
theorem KOk.nil (ts:List Thg):KOk ts []:=⟨by simp,by simp,by simp,by simp⟩
theorem KOk.to {ts ts':List Thg} {l:List (Str × Pt)} (h:KOk ts l) (hp:∀ x∈pts ts,x∈pts ts'):KOk ts' l:=⟨h.keys,h.vals,fun x hx=>hp _ (h.some x hx),h.long⟩
theorem KOk.put {ts:List Thg} {l:List (Str × Pt)} (h:KOk ts l) {s:Str} (hs:1<=s.length) {v:Pt} (hv:v ∉ l.map (·.2)) (ht:v∈pts ts):KOk ts (mput s v l):=by
 refine ⟨?_,Qf4 h.vals hv,fun x hx=>?_,fun x hx=>?_⟩
 ·rw [Qgd]
  split
  ·exact h.keys
  rename_i q
  rw [List.nodup_append]
  exact ⟨h.keys,by simp,by intro a ha b hb;simp at hb;subst hb;exact fun e=>q (e ▸ ha)⟩
 ·rcases Qeg hx with e|e
  ·subst e;exact ht
  exact h.some x e
 rcases Qeg hx with e|e
 ·subst e;exact hs
 exact h.long x e
structure DOk (N:Nat) (m:Dk):Prop where
 nm:m.nm=QgN m.sf m.ch
 keys:∀ k,k<=m.ch.length->KOk m.ts (QgN m.sf (m.ch.take k))
 chs:∀ k∈m.ch,k.t=none∨∃ p,k.t=pt p
 safe:∀ t∈m.ts,t.sf<=t.bs.length
 nts:m.ts.length<=N
 nch:m.ch.length<=N
 bytes:(m.ts.map (·.bs.length)).sum<=1000*N
theorem DOk.now {N:Nat} {m:Dk} (h:DOk N m):KOk m.ts m.nm:=by
 have:=h.keys m.ch.length (Nat.le_refl _)
 rw [List.take_length,← h.nm] at this
 exact this
theorem DOk.mono {N N':Nat} {m:Dk} (h:DOk N m) (hn:N<=N'):DOk N' m:=⟨h.nm,h.keys,h.chs,h.safe,by have:=h.nts;omega,by have:=h.nch;omega,by have:=h.bytes;omega⟩
theorem DOk.new (room:Int):DOk 0 ⟨room,[],[],[],[]⟩:=⟨rfl,fun k hk=>by simp [QgN];exact KOk.nil _,by simp,by simp,Nat.le_refl _,Nat.le_refl _,by simp⟩
theorem Qrv {ts:List Thg} {t:Thg} (h:t∈ts):t.bs.length<=(ts.map (·.bs.length)).sum:=by
 induction ts with
 | nil=>cases h
 | cons u ts ih =>
  simp only [List.map_cons,List.sum_cons]
  rcases List.mem_cons.1 h with e|e
  ·subst e;omega
  have:=ih e;omega
theorem DOk.len {N:Nat} {m:Dk} (h:DOk N m) {t:Thg} (ht:t∈m.ts):t.bs.length<=1000*N:=Nat.le_trans (Qrv ht) h.bytes
theorem Qkj {α:Type} {l:List α} {a:α} {k:Nat} (h:k<=l.length):(l++[a]).take k=l.take k:=by
 rw [List.take_append_of_le_length h]
theorem Qe6 (l:List (Str × Pt)) (cs:List Chg) (c:Chg):QgN l (cs++[c])=doC (QgN l cs) c:=by simp [QgN]
theorem DOk.chg {N:Nat} {m:Dk} (h:DOk N m) {c:Chg} (hc:c.t=none∨∃ p,c.t=pt p) (hk:KOk m.ts (doC m.nm c)):DOk (N+1) (Qv7 m c):=by
 refine ⟨?_,fun k hkl=>?_,fun k hk1=>?_,h.safe,by have:=h.nts;show m.ts.length<=N+1;omega,by have:=h.nch;show (m.ch++[c]).length<=N+1;simp;omega,by have:=h.bytes;show (m.ts.map (·.bs.length)).sum<=1000*(N+1);omega⟩
 ·show doC m.nm c=QgN m.sf (m.ch++[c])
  rw [Qe6,← h.nm]
 ·show KOk m.ts (QgN m.sf ((m.ch++[c]).take k))
  have hkl':k<=m.ch.length+1:=by have:k<=(m.ch++[c]).length:=hkl;simpa using this
  by_cases q:k<=m.ch.length
  ·rw [Qkj q];exact h.keys k q
  have:k=(m.ch++[c]).length:=by simp;omega
  rw [this,List.take_length,Qe6,← h.nm];exact hk
 have:k∈m.ch++[c]:=hk1
 rcases List.mem_append.1 this with e|e
 ·exact h.chs k e
 simp at e;subst e;exact hc
theorem DOk.things {N:Nat} {m:Dk} {ts:List Thg} (h:DOk N m) (hp:pts ts=pts m.ts) (hs:∀ t∈ts,t.sf<=t.bs.length) (hb:(ts.map (·.bs.length)).sum<=1000*(N+1)):DOk (N+1) { m with ts:=ts }:=by
 have hl:ts.length=m.ts.length:=by have:=congrArg List.length hp;simpa [pts] using this
 exact ⟨h.nm,fun k hk=>(h.keys k hk).to (by intro x hx;show x∈pts ts;rw [hp];exact hx),h.chs,hs,by have:=h.nts;show ts.length<=N+1;omega,by have:=h.nch;show m.ch.length<=N+1;omega,hb⟩
theorem QnE {l:List (Str × Pt)} {s:Str} {p:Nat}:doC l ⟨s,[],pt p⟩=mput s (pt p) l:=by unfold doC;simp
theorem DOk.newT {N:Nat} {m:Dk} (h:DOk N m) {s:Str} {p:Nat} {bs:List Int} (hs:1<=s.length) (hp:∀ t∈m.ts,t.p≠p) (hb:bs.length<=1000):DOk (N+1) (Qv4 m s p bs):=by
 have hpts:pts (m.ts++[(⟨p,bs,0⟩:Thg)])=pts m.ts++[pt p]:=by simp [pts]
 have hno:pt p ∉ pts m.ts:=fun hx=>by
  obtain ⟨t,ht,he⟩:=List.mem_map.1 hx
  simp at he;exact hp t ht he
 have hto:∀ x∈pts m.ts,x∈pts (m.ts++[(⟨p,bs,0⟩:Thg)]):=fun x hx=>by rw [hpts];simp [hx]
 have hput:KOk (m.ts++[(⟨p,bs,0⟩:Thg)]) (doC m.nm ⟨s,[],pt p⟩):=by
  rw [QnE]
  exact (h.now.to hto).put hs (fun hx=>by obtain ⟨y,hy,he⟩:=List.mem_map.1 hx;exact hno (he ▸ h.now.some y hy)) (by rw [hpts];simp)
 refine ⟨?_,fun k hkl=>?_,fun k hk1=>?_,fun t ht=>?_,?_,?_,?_⟩
 ·show doC m.nm ⟨s,[],pt p⟩=QgN m.sf (m.ch++[(⟨s,[],pt p⟩:Chg)])
  rw [Qe6,← h.nm]
 ·show KOk (m.ts++[(⟨p,bs,0⟩:Thg)]) (QgN m.sf ((m.ch++[(⟨s,[],pt p⟩:Chg)]).take k))
  have hkl':k<=m.ch.length+1:=by have:k<=(m.ch++[(⟨s,[],pt p⟩:Chg)]).length:=hkl;simpa using this
  by_cases q:k<=m.ch.length
  ·rw [Qkj q];exact (h.keys k q).to hto
  have:k=(m.ch++[(⟨s,[],pt p⟩:Chg)]).length:=by simp;omega
  rw [this,List.take_length,Qe6,← h.nm];exact hput
 ·have:k∈m.ch++[(⟨s,[],pt p⟩:Chg)]:=hk1
  rcases List.mem_append.1 this with e|e
  ·exact h.chs k e
  rw [List.mem_singleton] at e;subst e;exact .inr ⟨p,rfl⟩
 ·have:t∈m.ts++[(⟨p,bs,0⟩:Thg)]:=ht
  rcases List.mem_append.1 this with e|e
  ·exact h.safe t e
  simp at e;subst e;simp
 ·have:=h.nts;show (m.ts++[(⟨p,bs,0⟩:Thg)]).length<=N+1;simp;omega
 ·have:=h.nch;show (m.ch++[(⟨s,[],pt p⟩:Chg)]).length<=N+1;simp;omega
 have:=h.bytes;show ((m.ts++[(⟨p,bs,0⟩:Thg)]).map (·.bs.length)).sum<=1000*(N+1);simp;omega
theorem Qoe {ts:List Thg} {i:Nat} {t t':Thg} (hi:ts[i]?=some t):((ts.set i t').map (·.bs.length)).sum+t.bs.length=(ts.map (·.bs.length)).sum+t'.bs.length:=by
 induction ts generalizing i with
 | nil=>simp at hi
 | cons u ts ih =>
  cases i with
  | zero=>simp at hi;subst hi;simp;omega
  | succ i=>have:=ih (i:=i) (by simpa using hi);simp at this ⊢;omega
theorem DOk.app {N:Nat} {m:Dk} (h:DOk N m) {i:Nat} {t:Thg} (hi:m.ts[i]?=some t) {bs:List Int} (hb:bs.length<=1000):DOk (N+1) { m with ts:=m.ts.set i { t with bs:=t.bs++bs } }:=by
 refine h.things (Qrm hi rfl) (fun u hu=>?_) ?_
 ·rcases List.mem_or_eq_of_mem_set hu with e|e
  ·exact h.safe u e
  subst e;have:=h.safe t (List.mem_of_getElem? hi);simp;omega
 have:=Qoe (t':={ t with bs:=t.bs++bs }) hi
 have:=h.bytes
 simp only [QQ7] at *
 omega
end Go.Vx
namespace Go.Vx
open Go.RowKit
def RdX (w:World) (v:Value) (k:Nat) (ls:List (List Value)):Prop:=Rd w v k ls∨(ls=[]/\∃ a,v = .slice (some a) 0 0)
section
variable {w w0:World} {M:Nat->Prop} {L:List Res} {v:Value} {k:Nat} {ls:List (List Value)}
theorem Rd.emp_own (h:Rd w v k []) (w':World):Rd w' v k []:=⟨h.len,h.small,h.shape,by simp,h.room⟩
theorem RdX.own (h:RdX w0 v k ls) (hs:Own w0 M w L) (hm:ls≠[]->¬M (bkS v)):RdX w v k ls:=by
 rcases h with h|h
 ·by_cases q:ls=[]
  ·subst q;exact .inl (h.emp_own w)
  exact .inl (h.own hs (hm q))
 exact .inr h
theorem RdX.own' (h:RdX w0 v k ls) (hs:Own w0 no w L):RdX w v k ls:=h.own hs (fun _ h=>h)
theorem RdX.pos (h:RdX w v k ls) (hp:ls.length≠0):Rd w v k ls:=by
 rcases h with h|h
 ·exact h
 exact absurd (by rw [h.1];rfl) hp
theorem RdX.sml {α:Type} {enc:α->List Value} {l:List α} (h:RdX w v k (l.map enc)):l.length<=9223372036854775807:=by
 rcases h with h|⟨h,_⟩
 ·exact h.sml
 have:l=[]:=by simpa using h
 subst this;simp
theorem RdX.old (h:RdX w v k ls) (hk:0<k) (hp:ls≠[]):bkS v<w.heap.size:=by
 have h1:=h.pos (by intro e;exact hp (List.eq_nil_of_length_eq_zero e))
 rcases h1.shape with ⟨_,e⟩|⟨b,o,c,rfl⟩
 ·exact absurd e hp
 cases ls with
 | nil=>exact absurd rfl hp
 | cons l ls =>
  have hl:=h1.len l (by simp)
  have h2:=h1.cell 0 0 l (l[0]'(by omega)) (by simp) (List.getElem?_eq_getElem _)
  exact World.block_lt_of_cell? w ⟨b,o+0*k+0,none⟩ h2
end
structure Dact where
 kind:Int
 nm:Str
 ot:Str
 ba:Option Addr
 bc:Nat
 bs:List Int
 chg:Int
 ca:Option Addr
 cc:Nat
 cuts:List Int
 num:Int
instance:Inhabited Dact:=⟨⟨0,[],[],none,0,[],0,none,0,[],0⟩⟩
structure ActOk (w:World) (x:Dact):Prop where
 kind:0<=x.kind/\x.kind<256
 rb:RdX w (.slice x.ba x.bs.length x.bc) 1 (x.bs.map (ic .u8))
 bs:∀ y∈x.bs,0<=y/\y<256
 chg:0<=x.chg/\x.chg<256
 rc:RdX w (.slice x.ca x.cuts.length x.cc) 1 (x.cuts.map (ic .u8))
 cuts:∀ y∈x.cuts,0<=y/\y<256
 num:-9223372036854775808<=x.num/\x.num<=9223372036854775807
theorem ActOk.own' {w0 w:World} {L:List Res} {x:Dact} (h:ActOk w0 x) (hs:Own w0 no w L):ActOk w x:=⟨h.kind,h.rb.own' hs,h.bs,h.chg,h.rc.own' hs,h.cuts,h.num⟩
theorem ActOk.ownS {w0 w:World} {M:Nat->Prop} {L:List Res} {x:Dact} (h:ActOk w0 x) (hs:Own w0 M w L) (hb:x.bs≠[]->¬M (bkS (.slice x.ba x.bs.length x.bc))) (hc:x.cuts≠[]->¬M (bkS (.slice x.ca x.cuts.length x.cc))):ActOk w x :=
 ⟨h.kind,h.rb.own hs (fun q=>hb (by intro e;exact q (by rw [e];rfl))),h.bs,h.chg,h.rc.own hs (fun q=>hc (by intro e;exact q (by rw [e];rfl))),h.cuts,h.num⟩
end Go.Vx
namespace Go.Vx
open Go.RowKit
def QsY:List Value:=[.int .i64 0,.slice none 0 0,.map none,.map none,.slice none 0 0,.bool false,.int .i64 0]
def Nob (w:World) (v:Value):Prop:=v = .pointer none∨∃ b,v = .pointer (some ⟨b,0,none⟩)/\Qca w b QsY
theorem Nob.own' {w0 w:World} {L:List Res} {v:Value} (h:Nob w0 v) (hs:Own w0 no w L):Nob w v:=by
 rcases h with h|⟨b,h,hc⟩
 ·exact .inl h
 exact .inr ⟨b,h,hc.own' hs⟩
structure Qs (N:Nat) (s:Str) (p:Nat) (bs:List Int) (sf:Nat) (room:Int) (m:Dk):Prop where
 ok:DOk N m
 get:mget s m.nm=some (pt p)
 at_:∃ i:Nat,m.ts[i]?=some ⟨p,bs,sf⟩
 room:m.room=room
structure Qt (N:Nat) (s:Str) (p:Nat) (bs:List Int) (sf:Nat) (room:Int) (m:Dk):Prop where
 q:Qs N s p bs sf room m
 safe:mget s m.sf=some (pt p)
 ch:∀ k∈m.ch,k.fr=[]/\k.to≠s
theorem Qs.i {N:Nat} {s:Str} {p:Nat} {bs:List Int} {sf:Nat} {room:Int} {m:Dk} (h:Qs N s p bs sf room m):∃ i:Nat,m.ts[i]?=some ⟨p,bs,sf⟩:=h.at_
theorem Qt.app {N:Nat} {s:Str} {p:Nat} {bs cs:List Int} {sf:Nat} {room:Int} {m:Dk} (h:Qt N s p bs sf room m) {i:Nat} (hi:m.ts[i]?=some ⟨p,bs,sf⟩) (hc:cs.length<=1000):Qt (N+1) s p (bs++cs) sf room { m with ts:=m.ts.set i ⟨p,bs++cs,sf⟩ } :=
 ⟨⟨h.q.ok.app hi hc,h.q.get,⟨i,by show (m.ts.set i _)[i]?=_;rw [List.getElem?_set_self (QaT hi)]⟩,h.q.room⟩,h.safe,h.ch⟩
theorem Qt.new {N:Nat} {s s2:Str} {p p2:Nat} {bs cs:List Int} {sf:Nat} {room:Int} {m:Dk} (h:Qt N s p bs sf room m) (hs:1<=s2.length) (hne:s2≠s) (hp:∀ t∈m.ts,t.p≠p2) (hc:cs.length<=1000):Qt (N+1) s p bs sf room (Qv4 m s2 p2 cs):=by
 obtain ⟨i,hi⟩:=h.q.at_
 refine ⟨⟨h.q.ok.newT hs hp hc,?_,⟨i,?_⟩,h.q.room⟩,h.safe,fun k hk=>?_⟩
 ·show mget s (doC m.nm ⟨s2,[],pt p2⟩)=_
  rw [QnE,QgB,if_neg (fun e=>hne e.symm)];exact h.q.get
 ·show (m.ts++[_])[i]?=_
  rw [List.getElem?_append_left (QaT hi)];exact hi
 have:k∈m.ch++[(⟨s2,[],pt p2⟩:Chg)]:=hk
 rcases List.mem_append.1 this with e|e
 ·exact h.ch k e
 rw [List.mem_singleton] at e;subst e;exact ⟨rfl,hne⟩
end Go.Vx
namespace Go.Vx
open Go.RowKit
def Kept (w:World) (S:Nat->Prop) (R:Res):Prop:=∃ T,R.holds w T/\∀ b,S b->¬T b
section
variable {w w0 w1:World} {S M:Nat->Prop} {L L1:List Res}
theorem Rd.ownE {v:Value} {k:Nat} {ls:List (List Value)} (h:Rd w0 v k ls) (hs:Own w0 M w L) (hm:ls≠[]->¬M (bkS v)):Rd w v k ls:=by
 by_cases q:ls=[]
 ·subst q;exact h.emp_own w
 exact h.own hs (hm q)
theorem Kept.cells {b T:Nat} {cs:List Value} (h:Kept w S (blk b cs T)) (hs:Own w S w1 L1):Qca w1 b cs:=by
 obtain ⟨T',hk,hd⟩:=h
 have hb:¬S b:=fun hS=>hd b hS hk.1
 have h0:Qca w b cs:=fun j u hj=>by
  rw [cell_of_row w b j _ T _ hk.2];simpa using hj
 exact h0.own hs hb
theorem Kept.rd {v:Value} {ls:List (List Value)} {E k:Nat} (h:Kept w S (row v ls E k)) (hs:Own w S w1 L1):Rd w1 v k ls:=by
 obtain ⟨T',hk,hd⟩:=h
 refine (Rd.of_row hk).ownE hs fun hne hS=>?_
 obtain ⟨_,hown,hT⟩:=hk
 rcases hown.2 with ⟨hv,hn⟩|⟨g,cap,cur,hv,_⟩
 ·exact hne (List.eq_nil_of_length_eq_zero (by simpa using hn))
 subst hv;exact hd g hS (hT g rfl)
end
section
variable {P:Program} {ty:TypeId} {e:Operand->Value} {w:World} {K:Value->World->Prop} {w0:World} {M:Nat->Prop} {L:List Res}
theorem QiU {α:Type} {f:FuncId} {xs:List Operand} {vs:List Value} {ats:Array TypeId} {V:α->Value} {R:Res} {R':α->Res} {Lo:α->List Res} {F:α->World->Prop} (hf:En P f) (hef:e (.func f) = .func (.func f) #[] #[]) (hv:xs.map e=vs)
  (hs:Own w0 M w L) (i:Nat) (hi:L[i]?=some R)
  (hc:∀ S,R.holds w S->(∀ b,S b->b<w.heap.size)->(∀ j,j≠i->∀ Rj,L[j]?=some Rj->Kept w S Rj)->Calls P f vs.toArray w fun r w'=>∃ x,r = .returned (V x)/\Own w S w' (R' x :: Lo x)/\F x w') (h:∀ x w',Own w0 M w' (L.set i (R' x)++Lo x)->F x w'->K (V x) w') :
  opW P (.call { callee:=.value (.func f),args:=xs.toArray,argTypes:=ats }) ty e w K:=by
 obtain ⟨S,hR,hlt,_,hd,hback⟩:=hs.lend3 i hi
 exact QeE hf hef (by rw [List.map_toArray,hv]) ((hc S hR hlt hd).mono fun r w' ⟨x,hr,ho,hF⟩=>⟨V x,hr,h x w' (hback w' _ _ ho) hF⟩)
end
theorem Qrf {α:Type} {p:α->Bool} {l:List α}:decide (0<=Qez p l)=l.any p:=by
 unfold Qez
 cases l.any p with
 | true=>rw [if_pos rfl];exact QQ3 (by omega)
 | false=>rw [if_neg (by decide)];rfl
end Go.Vx
namespace Go.Proofs
open Go Go.Vx Go.RowKit
namespace Tt
theorem QtD:T1 Tryz.prog 100:=⟨Tryz.sizeOf100,Tryz.isAgg100⟩
theorem QtO:En Tryz.prog 148:=Tryz.call148
theorem QsI:En Tryz.prog 17:=Tryz.call17
theorem Qvy:En Tryz.prog 35:=Tryz.call35
theorem Qu4:En Tryz.prog 43:=Tryz.call43
theorem QuX:En Tryz.prog 45:=Tryz.call45
theorem QvR:En Tryz.prog 47:=Tryz.call47
theorem Qvj:En Tryz.prog 48:=Tryz.call48
theorem QvO:En Tryz.prog 50:=Tryz.call50
theorem Qvs:En Tryz.prog 96:=Tryz.call96
theorem QhT:Ud Tryz.prog 100 (.map 32 22):=Tryz.runUnderlying100
theorem Qtx:Zv Tryz.prog 22 (.int .u32 0):=Tryz.zeroValue22
theorem Qu9:Zv Tryz.prog 29 (.slice none 0 0):=Tryz.zeroValue29
end Tt
end Go.Proofs
namespace Go.Vx
theorem Qh0 {a b:Vec} {d:Dot} (h:vle a b=true) (ha:Qbu a d=true):Qbu b d=true:=by
 unfold Qbu at *
 simp only [Bool.and_eq_true,decide_eq_true_eq] at *
 exact ⟨ha.1,by have:=QnQ h d.rep.toNat;omega⟩
theorem QmX {s:List Lst} (hs:∀ x∈s,QiC x):∀ u:List Opn,(∀ o∈u,Qcc o)->∀ x∈QbT s u,QiC x:=by
 refine Qbr (motive:=fun u=>(∀ o∈u,Qcc o)->∀ x∈QbT s u,QiC x) (fun _=>hs) fun u o ih ho=>?_
 rw [QbY]
 have:=ho o (by simp)
 exact Qi6 ⟨this.2.2.1,this.2.2.2.2.2.1⟩ (ih fun x hx=>ho x (List.mem_append_left _ hx))
theorem QnR {s:List Lst} {B:Int} (hr:QdC s) (hs:∀ x∈s,x.tick<=B):∀ u:List Opn,(∀ o∈u,o.tick<=B)->∀ c t,QaJ (QbT s u) c=some t->t<=B:=by
 refine Qbr (motive:=fun u=>(∀ o∈u,o.tick<=B)->∀ c t,QaJ (QbT s u) c=some t->t<=B) (fun _ c t h=>hs ⟨c,t⟩ ((Qej hr ⟨c,t⟩).2 h)) fun u o ih ho c t h=>?_
 rw [QbY,QcP (Qcw hr u)] at h
 have ih2:=ih fun x hx=>ho x (List.mem_append_left _ hx)
 have h0:=ho o (by simp)
 split at h
 ·cases h2:QaJ (QbT s u) o.cart with
  | none=>rw [h2] at h;cases h;exact h0
  | some v =>
   rw [h2] at h
   have h3:max v o.tick=t:=Option.some.inj h
   have:=ih2 _ _ h2;omega
 exact ih2 c t h
theorem Qlc {s:List Lst} (hr:QdC s) {c:Int} (h0:(QaJ s c).isSome=true):∀ u:List Opn,(QaJ (QbT s u) c).isSome=true:=by
 refine Qbr (motive:=fun u=>(QaJ (QbT s u) c).isSome=true) h0 fun u o ih=>?_
 rw [QbY,QcP (Qcw hr u)]
 split
 ·rfl
 exact ih
theorem Qmx {s:List Lst} (hr:QdC s):∀ u:List Opn,∀ o∈u,(QaJ (QbT s u) o.cart).isSome=true:=by
 refine Qbr (motive:=fun u=>∀ o∈u,(QaJ (QbT s u) o.cart).isSome=true) (fun o h=>by cases h) fun u x ih o ho=>?_
 rw [QbY,QcP (Qcw hr u)]
 split
 ·rfl
 rename_i hne
 rcases List.mem_append.1 ho with h|h
 ·exact ih o h
 simp at h;subst h;exact absurd rfl hne
theorem Ql1 {p:Pst} {cut:Vec} (hr:Qco p=true) (hok:Qdq p) (hc:QbN cut):QdE (Qg6 p cut):=by
 refine ⟨hc,fun e he=>?_,fun x hx=>?_⟩
 ·rcases Qfh ((Qii hr cut e).1 he).1 with h|⟨o,ho,_,rfl⟩
  ·exact hok.1.2.1 e h
  exact Qmc (hok.2.1 o (Qb9 ho))
 exact QmX hok.1.2.2 _ (fun o ho=>hok.2.1 o (Qb9 ho)) x hx
theorem QeO {p:Pst} {cut:Vec} (hok:Qdq p) (hc:QbN cut):QdE (Qah p cut):=by
 unfold Qah;split
 ·rename_i h;exact Ql1 (Qdz h).1 hok hc
 exact QhA
theorem QdM (p:Pst) (cut:Vec):(Qah p cut).ents.length<=p.base.ents.length+p.ops.length/\(Qah p cut).ticks.length<=p.base.ticks.length+p.ops.length:=by
 have h1:=QeR p.ops cut
 unfold Qah;split
 ·refine ⟨?_,?_⟩
  ·show (QiI _ _).length<=_
   unfold QiI
   rw [QkW]
   have h2:=List.length_filter_le (QgM (Qaz p.ops cut)) (Qb0 p.base.ents (Qaz p.ops cut))
   have h3:=Qld p.base.ents (Qaz p.ops cut)
   omega
  show (QbT _ _).length<=_
  have:=Qk2 (s:=p.base.ticks) (Qaz p.ops cut)
  omega
 exact ⟨Nat.zero_le _,Nat.zero_le _⟩
theorem QkU {o:Opn} (h:Qcy o=true) (hl:Qbz o=true):QcW (Qlk o)=true:=by
 unfold Qcy at h
 simp only [Bool.and_eq_true] at h
 have hkk:=h.2
 unfold Qb7 at hkk
 unfold QcW Qlk
 rcases Qil.1 hl with g|g|g
 ·simp [g] at hkk ⊢;exact hkk
 ·simp [g]
 simp [g] at hkk ⊢;exact hkk
theorem QlV {α β:Type} {f:α->β} {l:List α} (h:(l.map f).Nodup):l.Nodup:=by
 unfold List.Nodup at h ⊢
 rw [List.pairwise_map] at h
 exact h.imp fun {a b} hab e=>hab (by rw [e])
theorem Qjp {p:Pst} {cut:Vec} (hok:Qdq p) (hI:QaK p cut=0):RightC (Qg6 p cut):=by
 obtain ⟨hr,hcut,_,hle⟩:=Qdz hI
 obtain ⟨hc,hb⟩:=QcK hr
 have hu:∀ o∈Qaz p.ops cut,o∈p.ops/\Qbu cut o.dot=true:=fun o h=>List.mem_filter.1 h
 have hT:=Qcw hb.rt (Qaz p.ops cut)
 refine ⟨hcut,hT,fun x hx=>?_,?_,fun e he=>?_,?_⟩
 ·refine QnR hb.rt hb.tick (Qaz p.ops cut) (fun o ho=>?_) x.cart x.tick ((Qej hT x).1 hx)
  have:=hc.ok o (hu o ho).1
  unfold Qcy at this
  simp only [Bool.and_eq_true,decide_eq_true_eq] at this
  exact this.1.2
 ·exact (QdA _ (Qdy hr cut)).1
 ·rcases Qfh ((Qii hr cut e).1 he).1 with h|⟨o,ho,hl,rfl⟩
  ·have h2:=hb.ent e h
   unfold QjT at h2 ⊢
   simp only [Bool.and_eq_true,decide_eq_true_eq] at h2 ⊢
   exact ⟨⟨⟨⟨Qlc hb.rt h2.1.1.1.1 _,h2.1.1.1.2⟩,Qh0 hle h2.1.1.2⟩,h2.1.2⟩,h2.2⟩
  have hoo:=hu o ho
  have hrt:=hc.ok o hoo.1
  have hcn:=Qqz (hok.2.1 o hoo.1) hrt
  unfold QjT
  simp only [Bool.and_eq_true,decide_eq_true_eq]
  exact ⟨⟨⟨⟨Qmx hb.rt _ o ho,QkU hrt hl⟩,hoo.2⟩,hcn.1⟩,hcn.2⟩
 have hp:=QdA _ (Qdy hr cut)
 have hn:=Qdy hr cut
 have hnl:((Qb0 p.base.ents (Qaz p.ops cut)).filter (QgM (Qaz p.ops cut))).Nodup:=QlV hn
 have hperm:(Qg6 p cut).ents.Perm ((Qb0 p.base.ents (Qaz p.ops cut)).filter (QgM (Qaz p.ops cut))):=by
  refine (List.perm_ext_iff_of_nodup ?_ hnl).2 hp.2
  exact hp.1.imp fun {a b} hab e=>by subst e;rw [QbU] at hab;cases hab
 exact (hperm.map _).nodup_iff.2 hn
theorem QhY {p:Pst} {cut:Vec} (hok:Qdq p) (hI:QaK p cut=0):Qas (Qah p cut)=true:=by
 unfold Qah;rw [if_pos hI];exact Qcx.2 (Qjp hok hI)
def Qqx:Vw:=⟨0,[],false,0⟩
def Qa4 (p:Pst) (cut:Vec) (n:Int):Vw:=QaC (Qah p cut) n (Qas (Qah p cut))
def Qar (p:Pst) (cut:Vec) (n:Int):Vw:=if QaK p cut=0 then Qa4 p cut n else Qqx
theorem Qol {p:Pst} {cut:Vec} {n:Int} (h:¬QaK p cut=0):Qar p cut n=Qqx:=if_neg h
theorem Qfa {p:Pst} {cut:Vec} {n:Int} (h:QaK p cut=0):Qar p cut n=Qa4 p cut n:=if_pos h
end Go.Vx
namespace Go.Proofs
open Go Go.Vx Go.RowKit
namespace Tt
theorem Qrw:Bt Tryz.prog 43 [(0,18),(18,1),(19,16)] (((vc vzero)++[(.slice none 0 0:Value),(.slice none 0 0:Value) ])++[(.slice none 0 0:Value) ]++(vc vzero)):=Qcm Tryz.type43 rfl rfl Tryz.underlying43 (by kernel_rfl)
theorem QlW:En Tryz.prog 12:=Tryz.call12
theorem QoW:Zv Tryz.prog 43 (.agg (((vc vzero)++[(.slice none 0 0:Value),(.slice none 0 0:Value) ])++[(.slice none 0 0:Value) ]++(vc vzero)).toArray):=Tryz.zeroValue43
end Tt
end Go.Proofs
namespace Go.Vx
open Go.RowKit
structure Dif where
 cart:Int
 item:Int
 mark:Bool
 was:Int
 nw:Int
deriving DecidableEq
instance:Inhabited Dif:=⟨⟨0,0,false,0,0⟩⟩
def dfc (x:Dif):List Value:=[.int .u16 x.cart,.int .u16 x.item,.bool x.mark,.int .u32 x.was,.int .u32 x.nw]
theorem Qjg (x:Dif):∀ y∈dfc x,y.oneCell'=true:=by
 intro y hy;simp only [dfc,List.mem_cons,List.not_mem_nil,or_false] at hy;rcases hy with h|h|h|h|h<;>subst h<;>rfl
theorem Qrz (a b:Dif):(decide (a.cart=b.cart)&&(decide (a.item=b.item)&&((a.mark == b.mark)&&(decide (a.was=b.was)&&(decide (a.nw=b.nw)&&true)))))=decide (a=b):=by
 cases a;cases b;simp
 rw [Bool.eq_iff_iff];simp
def QfH (l:List Line):Prop:=l.Pairwise fun a b=>a.item<b.item
def qL (l:List Line) (n:Int):Int:=((l.find? fun x=>decide (x.item=n)).map (·.qty)).getD 0
def QiM (c:Int) (a b:List Line) (n:Int):List Dif:=if qL a n=qL b n then [] else [⟨c,n,false,qL a n,qL b n⟩]
def QmP (a b:Vw):List Dif:=if a.out=b.out then [] else [⟨b.cart,0,true,QeQ a.out,QeQ b.out⟩]
def unI (a b:List Line):List Int:=QfG ((a++b).map (·.item))
def QeF (a b:Vw):List Dif:=(unI a.lines b.lines).flatMap (QiM b.cart a.lines b.lines)++QmP a b
theorem Qsj {l:List Line} (h:QfH l) {x:Line} (hx:x∈l):qL l x.item=x.qty:=by
 unfold qL
 induction l with
 | nil=>cases hx
 | cons y l ih =>
  rw [List.find?_cons]
  rcases List.mem_cons.1 hx with e|e
  ·subst e;simp
  have h1:=List.pairwise_cons.1 h
  have h2:=h1.1 x e
  rw [QQ4 (by omega)]
  exact ih h1.2 e
theorem Qq0 {l:List Line} {n:Int} (h:∀ x∈l,x.item≠n):qL l n=0:=by
 unfold qL
 rw [List.find?_eq_none.2 fun x hx=>by simpa using h x hx];rfl
structure DifI (a b R1 R2:List Line) (I:List Int):Prop where
 ex:∃ D1 D2,a=D1++R1/\b=D2++R2/\(∀ i,i∈I↔i∈(D1++D2).map (·.item))
 lt:∀ i∈I,∀ x,x∈R1∨x∈R2->i<x.item
 asc:I.Pairwise (· < ·)
theorem Qk8 (a b:List Line):DifI a b a b []:=⟨⟨[],[],rfl,rfl,by simp⟩,by simp,List.Pairwise.nil⟩
theorem QpQ {a b:List Line} {I:List Int} (h:DifI a b [] [] I):I=unI a b:=by
 obtain ⟨D1,D2,h1,h2,h3⟩:=h.ex
 rw [List.append_nil] at h1 h2
 subst h1 h2
 exact Qhy h.asc (Qgf _).1 fun x=>by unfold unI;rw [h3,(Qgf _).2]
theorem QfH.app {l m:List Line} (h:QfH (l++m)):QfH l/\QfH m/\∀ x∈l,∀ y∈m,x.item<y.item:=List.pairwise_append.1 h
theorem QeI {R:List Line} (h:QfH R) (hn:0<R.length):∀ x∈R.drop 1,(gd R 0).item<x.item:=by
 cases R with
 | nil=>simp at hn
 | cons y R=>exact (List.pairwise_cons.1 h).1
theorem Qhv {R:List Line} (hn:0<R.length):R=gd R 0 :: R.drop 1:=by cases R with|nil=>simp at hn|cons y R=>rfl
theorem Qv0 {I:List Int} {n:Int} (h:I.Pairwise (· < ·)) (hn:∀ i∈I,i<n):(I++[n]).Pairwise (· < ·):=by
 rw [List.pairwise_append];exact ⟨h,by simp,fun a ha b hb=>by simp at hb;subst hb;exact hn a ha⟩
theorem Qms {a b R1 R2:List Line} {I:List Int} (ha:QfH a) (hb:QfH b) (h:DifI a b R1 R2 I) (hn:0<R1.length) (hlt:∀ x∈R2,(gd R1 0).item<x.item):DifI a b (R1.drop 1) R2 (I++[(gd R1 0).item])/\qL a (gd R1 0).item=(gd R1 0).qty/\qL b (gd R1 0).item=0:=by
 obtain ⟨D1,D2,h1,h2,h3⟩:=h.ex
 have hm:gd R1 0∈R1:=QbB hn
 have hr1:=(QfH.app (h1 ▸ ha)).2.1
 refine ⟨⟨⟨D1++[gd R1 0],D2,?_,h2,fun i=>?_⟩,fun i hi x hx=>?_,Qv0 h.asc fun i hi=>h.lt i hi _ (.inl hm)⟩,Qsj ha (by rw [h1];exact List.mem_append_right _ hm),Qq0 fun x hx=>?_⟩
 ·rw [List.append_assoc,h1];congr 1;exact Qhv hn
 ·rw [List.mem_append,h3,List.mem_singleton];simp only [List.map_append,List.mem_append,List.map_cons,List.map_nil,List.mem_singleton]
  constructor
  ·rintro ((h|h)|h)
   ·exact .inl (.inl h)
   ·exact .inr h
   exact .inl (.inr h)
  rintro ((h|h)|h)
  ·exact .inl (.inl h)
  ·exact .inr h
  exact .inl (.inr h)
 ·rcases List.mem_append.1 hi with hi|hi
  ·refine h.lt i hi x ?_
   rcases hx with hx|hx
   ·exact .inl (List.mem_of_mem_drop hx)
   exact .inr hx
  simp at hi;subst hi
  rcases hx with hx|hx
  ·exact QeI hr1 hn x hx
  exact hlt x hx
 rw [h2] at hx
 rcases List.mem_append.1 hx with hx|hx
 ·have h4:=h.lt x.item ((h3 _).2 (List.mem_map.2 ⟨x,List.mem_append_right _ hx,rfl⟩)) _ (.inl hm)
  omega
 have:=hlt x hx;omega
theorem Qqm {a b R1 R2:List Line} {I:List Int} (ha:QfH a) (hb:QfH b) (h:DifI a b R1 R2 I) (hn:0<R2.length) (hlt:∀ x∈R1,(gd R2 0).item<x.item):DifI a b R1 (R2.drop 1) (I++[(gd R2 0).item])/\qL a (gd R2 0).item=0/\qL b (gd R2 0).item=(gd R2 0).qty:=by
 have hs:DifI b a R2 R1 I:=by
  obtain ⟨D1,D2,h1,h2,h3⟩:=h.ex
  exact ⟨⟨D2,D1,h2,h1,fun i=>by rw [h3];simp only [List.map_append,List.mem_append];exact Or.comm⟩,fun i hi x hx=>h.lt i hi x hx.symm,h.asc⟩
 obtain ⟨h1,h2,h3⟩:=Qms hb ha hs hn hlt
 refine ⟨?_,h3,h2⟩
 obtain ⟨D1,D2,e1,e2,e3⟩:=h1.ex
 exact ⟨⟨D2,D1,e2,e1,fun i=>by rw [e3];simp only [List.map_append,List.mem_append];exact Or.comm⟩,fun i hi x hx=>h1.lt i hi x hx.symm,h1.asc⟩
theorem Qqd {a b R1 R2:List Line} {I:List Int} (ha:QfH a) (hb:QfH b) (h:DifI a b R1 R2 I) (hn1:0<R1.length) (hn2:0<R2.length) (he:(gd R1 0).item=(gd R2 0).item):DifI a b (R1.drop 1) (R2.drop 1) (I++[(gd R1 0).item])/\qL a (gd R1 0).item=(gd R1 0).qty/\qL b (gd R1 0).item=(gd R2 0).qty:=by
 obtain ⟨D1,D2,h1,h2,h3⟩:=h.ex
 have hm:gd R1 0∈R1:=QbB hn1
 have hm2:gd R2 0∈R2:=QbB hn2
 have hr1:=(QfH.app (h1 ▸ ha)).2.1
 have hr2:=(QfH.app (h2 ▸ hb)).2.1
 refine ⟨⟨⟨D1++[gd R1 0],D2++[gd R2 0],?_,?_,fun i=>?_⟩,fun i hi x hx=>?_,Qv0 h.asc fun i hi=>h.lt i hi _ (.inl hm)⟩,Qsj ha (by rw [h1];exact List.mem_append_right _ hm),by rw [he];exact Qsj hb (by rw [h2];exact List.mem_append_right _ hm2)⟩
 ·rw [List.append_assoc,h1];congr 1;exact Qhv hn1
 ·rw [List.append_assoc,h2];congr 1;exact Qhv hn2
 ·rw [List.mem_append,h3,List.mem_singleton];simp only [List.map_append,List.mem_append,List.map_cons,List.map_nil,List.mem_singleton]
  constructor
  ·rintro ((h|h)|h)
   ·exact .inl (.inl h)
   ·exact .inr (.inl h)
   exact .inl (.inr h)
  rintro ((h|h)|(h|h))
  ·exact .inl (.inl h)
  ·exact .inr h
  ·exact .inl (.inr h)
  exact .inr (h.trans he.symm)
 rcases List.mem_append.1 hi with hi|hi
 ·refine h.lt i hi x ?_
  rcases hx with hx|hx
  ·exact .inl (List.mem_of_mem_drop hx)
  exact .inr (List.mem_of_mem_drop hx)
 simp at hi;subst hi
 rcases hx with hx|hx
 ·exact QeI hr1 hn1 x hx
 rw [he];exact QeI hr2 hn2 x hx
theorem QhB {c n was nw:Int} {a b:List Line} {I:List Int} {L out:List Dif} (h:out=L++I.flatMap (QiM c a b)) (h1:qL a n=was) (h2:qL b n=nw) (hne:¬was=nw):out++[⟨c,n,false,was,nw⟩]=L++(I++[n]).flatMap (QiM c a b):=by
 rw [List.flatMap_append,← List.append_assoc,← h]
 congr 1
 simp only [List.flatMap_cons,List.flatMap_nil,List.append_nil]
 unfold QiM;rw [h1,h2,if_neg hne]
theorem QmZ {c n was nw:Int} {a b:List Line} {I:List Int} {L out:List Dif} (h:out=L++I.flatMap (QiM c a b)) (h1:qL a n=was) (h2:qL b n=nw) (hne:was=nw):out=L++(I++[n]).flatMap (QiM c a b):=by
 rw [List.flatMap_append,← List.append_assoc,← h]
 simp only [List.flatMap_cons,List.flatMap_nil,List.append_nil]
 unfold QiM;rw [h1,h2,if_pos hne,List.append_nil]
theorem QfN {R1 R2:List Line} (hr:QfH R2) (h:R2.length=0∨(0<R1.length/\(gd R1 0).item<(gd R2 0).item)):∀ x∈R2,(gd R1 0).item<x.item:=by
 intro x hx
 rcases h with h|h
 ·rw [List.eq_nil_of_length_eq_zero h] at hx;cases hx
 have hn:0<R2.length:=List.length_pos_of_mem hx
 rw [Qhv hn] at hx
 rcases List.mem_cons.1 hx with e|e
 ·rw [e];exact h.2
 have:=QeI hr hn x e;omega
theorem QpD {a b R1 R2:List Line} {I:List Int} (ha:QfH a) (hb:QfH b) (h:DifI a b R1 R2 I):QfH R1/\QfH R2:=by
 obtain ⟨D1,D2,h1,h2,_⟩:=h.ex
 exact ⟨(QfH.app (h1 ▸ ha)).2.1,(QfH.app (h2 ▸ hb)).2.1⟩
theorem Qod {a b R1 R2:List Line} {I:List Int} (h:DifI a b R1 R2 I):(∀ x∈R1,x∈a)/\∀ x∈R2,x∈b:=by
 obtain ⟨D1,D2,h1,h2,_⟩:=h.ex
 subst h1 h2
 exact ⟨fun x hx=>List.mem_append_right _ hx,fun x hx=>List.mem_append_right _ hx⟩
def Qev (TC T b:Nat) (L:List Dif):Res:=exR fun x:Option Addr × Nat=>star [blk b [(.slice x.1 L.length x.2:Value)] TC,row (.slice x.1 L.length x.2) (L.map dfc) T 5]
theorem Qn3 {TC T b:Nat} {L:List Dif} {w:World} {S:Nat->Prop} (h:(Qev TC T b L).holds w S) (hlt:∀ x,S x->x<w.heap.size):∃ a c,Own w S w [blk b [(.slice a L.length c:Value)] TC,row (.slice a L.length c) (L.map dfc) T 5]:=by
 obtain ⟨⟨a,c⟩,h⟩:=h
 exact ⟨a,c,Own.open h hlt⟩
theorem Qo0 {TC T b:Nat} {L:List Dif} {w w0:World} {M:Nat->Prop} {a:Option Addr} {c:Nat} (h:Own w0 M w [blk b [(.slice a L.length c:Value)] TC,row (.slice a L.length c) (L.map dfc) T 5]):Own w0 M w [Qev TC T b L]:=(Own.shut h).conv 0 rfl fun _ h=>⟨(a,c),h⟩
section
variable {P:Program} {ty:TypeId} {e:Operand->Value} {w:World} {K:Value->World->Prop} {w0:World} {M:Nat->Prop} {L:List Res}
theorem Qpa {α:Type} {f:FuncId} {x:Operand} {xs:List Operand} {vs cs:List Value} {ats:Array TypeId} {V:α->Value} {R:Res} {R':α->Res} {Lo:α->List Res} {F:α->World->Prop} (hf:En P f) (hx:e x = .func (.func f) #[] cs.toArray) (hv:xs.map e=vs)
  (hs:Own w0 M w L) (i:Nat) (hi:L[i]?=some R)
  (hc:∀ S,R.holds w S->(∀ b,S b->b<w.heap.size)->Calls P f (vs++cs).toArray w fun r w'=>∃ x,r = .returned (V x)/\Own w S w' (R' x :: Lo x)/\F x w') (h:∀ x w',Own w0 M w' (L.set i (R' x)++Lo x)->F x w'->K (V x) w') :
  opW P (.call { callee:=.value x,args:=xs.toArray,argTypes:=ats }) ty e w K:=by
 obtain ⟨S,hR,hlt,hback⟩:=hs.lend i hi
 exact Qv2 hf hx hv ((hc S hR hlt).mono fun r w' ⟨x,hr,ho,hF⟩=>⟨V x,hr,h x w' (hback w' _ _ ho) hF⟩)
end
end Go.Vx
namespace Go.Vx
theorem QvL {n1 n2:Nat} {x y:Int} (h0:(decide (0<(n1:Int))||decide (0<(n2:Int)))=true) (h:(decide ((n2:Int)=0)||(decide (0<(n1:Int))&&decide (x<y)))=true):0<n1/\(n2=0∨(0<n1/\x<y)):=by
 simp only [Bool.or_eq_true,Bool.and_eq_true,decide_eq_true_eq] at h0 h
 rcases h with h|h
 ·exact ⟨by omega,.inl (by omega)⟩
 exact ⟨by omega,.inr ⟨by omega,h.2⟩⟩
theorem Qvv {n1 n2:Nat} {x y:Int} (hn:0<n2) (h:(decide ((n1:Int)=0)||decide (y<x))=true):n1=0∨(0<n2/\y<x):=by
 simp only [Bool.or_eq_true,decide_eq_true_eq] at h
 rcases h with h|h
 ·exact .inl (by omega)
 exact .inr ⟨hn,h⟩
theorem Qvx {n1:Nat} {x y:Int} (h:(decide (0<(n1:Int))&&decide (x<y))=false) (hn:0<n1) (hy:¬y<x):x=y:=by
 rw [QQ3 (by omega:0<(n1:Int)),Bool.true_and,decide_eq_false_iff_not] at h
 omega
end Go.Vx
namespace Go.Vx
theorem QjD {la lb R1 R2:List Line} {I:List Int} {c:Int} {L out:List Dif} (h:DifI la lb R1 R2 I) (h1:¬0<R1.length) (h2:¬0<R2.length) (ho:out=L++I.flatMap (QiM c la lb)):out=L++(unI la lb).flatMap (QiM c la lb):=by
 have hR1:R1=[]:=List.eq_nil_of_length_eq_zero (by omega)
 have hR2:R2=[]:=List.eq_nil_of_length_eq_zero (by omega)
 subst hR1 hR2
 rw [ho,QpQ h]
theorem QmY {va vb at_ bt:Int} {ao bo:Bool} {la lb:List Line} {L out:List Dif} (ho:out=L++(unI la lb).flatMap (QiM vb la lb)) (h:ao=bo):out=L++QeF ⟨va,la,ao,at_⟩ ⟨vb,lb,bo,bt⟩:=by
 unfold QeF QmP;rw [ho,if_pos h,List.append_nil]
theorem Qni {va vb at_ bt:Int} {ao bo:Bool} {la lb:List Line} {L out:List Dif} (ho:out=L++(unI la lb).flatMap (QiM vb la lb)) (h:¬ao=bo):out++[⟨vb,0,true,QeQ ao,QeQ bo⟩]=L++QeF ⟨va,la,ao,at_⟩ ⟨vb,lb,bo,bt⟩:=by
 unfold QeF QmP;rw [ho,if_neg h,List.append_assoc]
end Go.Vx
namespace Go.Proofs
open Go Go.Vx Go.RowKit
namespace Tt
theorem Qsa:T1 Tryz.prog 60:=⟨Tryz.sizeOf60,Tryz.isAgg60⟩
theorem Qjs:TA Tryz.prog 83 5:=⟨Tryz.sizeOf83,Tryz.isAgg83⟩
theorem QrD:Bt Tryz.prog 83 [(0,1),(1,1),(2,1),(3,1),(4,1)] (dfc (⟨0,0,false,0,0⟩:Dif)):=Qcm Tryz.type83 rfl rfl Tryz.underlying83 (by kernel_rfl)
theorem Qs0:El Tryz.prog 60 83 5 16:=⟨Tryz.underlying60,_,_,Tryz.type83,rfl,rfl,rfl,rfl,by decide⟩
theorem Qqf:En Tryz.prog 106:=Tryz.call106
theorem Qn7:En Tryz.prog 65:=Tryz.call65
theorem QdG:FA Tryz.prog 127 0 0:=fun b o w=>by simp [Instr.fieldAt,Instr.sureAddr,fieldPlace,Qbi]
theorem QfS:FA Tryz.prog 127 1 1:=fun b o w=>by simp [Instr.fieldAt,Instr.sureAddr,fieldPlace,Qbi]
theorem Qjm:FA Tryz.prog 83 1 1:=fun b o w=>by simp [Instr.fieldAt,Instr.sureAddr,fieldPlace,Qbi]
theorem Qgg:FA Tryz.prog 83 3 3:=fun b o w=>by simp [Instr.fieldAt,Instr.sureAddr,fieldPlace,Qbi]
theorem Qf1:FA Tryz.prog 83 4 4:=fun b o w=>by simp [Instr.fieldAt,Instr.sureAddr,fieldPlace,Qbi]
theorem QjG:Tryz.prog.underlying 47=some (.slice 127):=Tryz.underlying47
theorem Qvt:Zv Tryz.prog 83 (.agg (dfc (⟨0,0,false,0,0⟩:Dif)).toArray):=Tryz.zeroValue83
end Tt
end Go.Proofs
namespace Go.Vx
theorem QjA (s:Sta) (c:Int) (r:Bool):QfH (QaC s c r).lines:=by
 unfold QaC;split
 ·exact List.pairwise_map.2 (Qgf _).1
 exact List.Pairwise.nil
theorem Qik (l:List Int):(QfG l).length<=l.length:=by
 have h:∀ l:List Int,(l.foldl (fun m x=>if x∈m then m else m++[x]) []).length<=l.length:=by
  refine Qbr (Nat.le_refl _) fun l a ih=>?_
  rw [List.foldl_append,QQ7]
  show (if a∈_ then _ else _:List Int).length<=_
  split
  ·omega
  rw [QQ7];simp;omega
 unfold QfG;rw [QeL];exact h l
theorem Qe0 (s:Sta) (c:Int) (r:Bool):(QaC s c r).lines.length<=s.ents.length:=by
 unfold QaC;split
 ·show ((QfG (QeW s c)).map _).length<=_
  rw [QQ6]
  refine Nat.le_trans (Qik _) ?_
  unfold QeW;rw [QQ6];exact List.length_filter_le _ _
 exact Nat.zero_le _
theorem QpO (a b:Vw):(QeF a b).length<=a.lines.length+b.lines.length+1:=by
 unfold QeF
 rw [QQ7]
 have h1:∀ l:List Int,(l.flatMap (QiM b.cart a.lines b.lines)).length<=l.length:=by
  intro l
  induction l with
  | nil=>exact Nat.le_refl _
  | cons x l ih =>
   rw [List.flatMap_cons,QQ7,List.length_cons]
   have:(QiM b.cart a.lines b.lines x).length<=1:=by unfold QiM;split<;>simp
   omega
 have h2:=h1 (unI a.lines b.lines)
 have h3:=Qik ((a.lines++b.lines).map (·.item))
 have h4:(QmP a b).length<=1:=by unfold QmP;split<;>simp
 rw [QQ6,QQ7] at h3
 unfold unI at h2 ⊢
 omega
def Qdd (p:Pst) (a b:Vec):Int:=if QaK p a=0 then (if QaK p b=0 then (if vle a b=true then 0 else 14) else QaK p b) else QaK p a
def QiZ (p:Pst) (a b:Vec) (n:Int):List Dif:=QeF (Qa4 p a n) (Qa4 p b n)
def QcU (p:Pst) (a b:Vec):List Dif:=if Qdd p a b=0 then (QaB (Qah p b)).flatMap (QiZ p a b) else []
theorem Qi1 {p:Pst} {a b:Vec} (h:¬Qdd p a b=0):QcU p a b=[]:=if_neg h
theorem QrP {p:Pst} {a b:Vec} (h:¬QaK p a=0):Qdd p a b=QaK p a:=if_neg h
theorem QrL {p:Pst} {a b:Vec} (h1:QaK p a=0) (h:¬QaK p b=0):Qdd p a b=QaK p b:=by unfold Qdd;rw [if_pos h1,if_neg h]
theorem QrH {p:Pst} {a b:Vec} (h1:QaK p a=0) (h2:QaK p b=0) (h:vle a b=false):Qdd p a b=14:=by unfold Qdd;rw [if_pos h1,if_pos h2,if_neg (by rw [h];decide)]
theorem QmS {p:Pst} {a b:Vec} (h1:QaK p a=0) (h2:QaK p b=0) (h:vle a b=true):Qdd p a b=0:=by unfold Qdd;rw [if_pos h1,if_pos h2,if_pos h]
theorem Qma {p:Pst} {a b:Vec} {l:List Int} {k:Nat} {out:List Dif} (h:out=(l.take k).flatMap (QiZ p a b)) (hk:k<l.length):out++QiZ p a b (gd l k)=(l.take (k+1)).flatMap (QiZ p a b):=by
 rw [Qbx hk,List.flatMap_append,← h];simp
theorem QoD {p:Pst} {a b:Vec} {k:Nat} {out:List Dif} (hI:Qdd p a b=0) (h:out=((QaB (Qah p b)).take k).flatMap (QiZ p a b)) (hk:¬k<(QaB (Qah p b)).length):QcU p a b=out:=by
 unfold QcU;rw [if_pos hI,h,QcE hk]
theorem Qh1 (s:Sta):(QaB s).length<=s.ticks.length:=by
 unfold QaB;split
 ·rw [QQ6];exact Nat.le_refl _
 exact Nat.zero_le _
def QgG (v:Vw) (now idle:Int):Bool:=decide (((v.lines.length:Nat):Int)=0)||v.out||decide (now-idle<v.tick)
def abI (p:Pst) (cut:Vec) (now idle:Int):Int:=if QaK p cut=0 then (if now<idle then 2 else 0) else QaK p cut
def abR (p:Pst) (cut:Vec) (now idle:Int):List Int:=if abI p cut now idle=0 then (QaB (Qah p cut)).filter (fun n=>!QgG (Qa4 p cut n) now idle) else []
theorem Qvi {p:Pst} {c:Vec} {n i:Int} (h:¬QaK p c=0):abI p c n i=QaK p c:=if_neg h
theorem Qvk {p:Pst} {c:Vec} {n i:Int} (h:QaK p c=0) (h2:n<i):abI p c n i=2:=by unfold abI;rw [if_pos h,if_pos h2]
theorem QsL {p:Pst} {c:Vec} {n i:Int} (h:QaK p c=0) (h2:¬n<i):abI p c n i=0:=by unfold abI;rw [if_pos h,if_neg h2]
theorem QsV {p:Pst} {c:Vec} {n i:Int} (h:¬abI p c n i=0):abR p c n i=[]:=if_neg h
theorem Qp6 {p:Pst} {c:Vec} {n i:Int} (h:abI p c n i=0):abR p c n i=(QaB (Qah p c)).filter (fun m=>!QgG (Qa4 p c m) n i):=if_pos h
end Go.Vx
namespace Go.Proofs
open Go Go.Vx Go.RowKit
namespace Tt
theorem Qup:En Tryz.prog 110:=Tryz.call110
theorem QtI:En Tryz.prog 63:=Tryz.call63
theorem QvT:En Tryz.prog 64:=Tryz.call64
theorem QvN:En Tryz.prog 67:=Tryz.call67
theorem QvA:En Tryz.prog 68:=Tryz.call68
theorem Qqu:Tryz.prog.underlying 69=some (.slice 32):=Tryz.underlying69
theorem Qva:Zv Tryz.prog 32 (.int .u16 0):=Tryz.zeroValue32
theorem Qvh:Zv Tryz.prog 60 (.slice none 0 0):=Tryz.zeroValue60
end Tt
end Go.Proofs
namespace Go.Vx
def alK:Vec:=vset vzero 0 1
def Qdp:Vec:=vset vzero 0 2
def QqR:Vec:=vset (vset vzero 0 0) 1 1
def alP:Pst:=⟨⟨vzero,[],[]⟩,[Qp0],alK⟩
theorem Qh6:QbN alK:=QgE QcC _ (by decide) (by decide)
theorem QrX:QbN Qdp:=QgE QcC _ (by decide) (by decide)
theorem Qq3:QbN QqR:=QgE (QgE QcC _ (by decide) (by decide)) _ (by decide) (by decide)
theorem Qg9:Qdq alP:=⟨QhA,fun o ho=>by simp [alP] at ho;subst ho;exact QqW,Qh6⟩
theorem Qfm:QaK alP alK=0:=by decide +kernel
theorem Qnj:QaK alP vzero=0:=by decide +kernel
theorem Qq5:QaK alP Qdp=11:=by decide +kernel
theorem QqD:QaK alP QqR=11:=by decide +kernel
theorem Qne:Qah alP alK=QoS:=by unfold Qah;rw [if_pos Qfm];rfl
theorem QsM:Qah alP vzero=szero:=by unfold Qah;rw [if_pos Qnj];rfl
theorem QlI (n:Int):Qa4 alP alK n=QaC QoS n (Qas QoS):=by unfold Qa4;rw [Qne]
theorem QqV:Qar alP alK 3=⟨3,[(⟨4,2⟩:Line)],false,5⟩:=by rw [Qfa Qfm,QlI,Qvz]
theorem Qtf:Qa4 alP vzero 3=⟨3,[],false,0⟩:=by
 unfold Qa4;rw [QsM]
 have h1:Qas szero=true:=by decide +kernel
 rw [h1]
 show QkX szero 3=_
 unfold QkX
 have h2:QfG (QeW szero 3)=[]:=by
  show QfG []=[]
  exact QnD
 rw [h2];rfl
theorem QjZ:QaB (Qah alP alK)=[3]:=by
 rw [Qne];unfold QaB;rw [if_pos (by decide +kernel)];rfl
theorem QtM:Qdd alP vzero alK=0:=by rw [QmS Qnj Qfm (by decide +kernel)]
theorem QrU:QcU alP vzero alK=[⟨3,4,false,0,2⟩]:=by
 unfold QcU
 rw [if_pos QtM,QjZ]
 simp only [List.flatMap_cons,List.flatMap_nil,List.append_nil]
 unfold QiZ
 rw [Qtf,QlI,Qvz]
 unfold QeF
 have h:unI [] [(⟨4,2⟩:Line)]=[4]:=by
  show Qa7 _=_
  exact Qnp 4
 dsimp only
 rw [h];rfl
theorem QtB:abI alP alK 9 4=0:=by rw [QsL Qfm (by decide)]
theorem QvI:abR alP alK 9 4=[3]:=by
 rw [Qp6 QtB,QjZ]
 have:QgG (Qa4 alP alK 3) 9 4=false:=by rw [QlI,Qvz];rfl
 simp [this]
theorem QqS:(Qah alP alK).ents.length=1:=by rw [Qne];rfl
end Go.Vx
namespace Go.Proofs
open Go Go.Vx Go.RowKit
namespace Tt
theorem Qvr (a b:Dif):EqF Tryz.prog 2 83 (.agg (dfc a).toArray) (.agg (dfc b).toArray) (decide (a=b)):=by
 rw [← Qrz]
 exact Qfo (D:=1) Tryz.underlying83 Tryz.stoodInHeld83 (.cons (by decide) (Qbd ⟨Tryz.sizeOf32,Tryz.isAgg32⟩ rfl) (Qbd ⟨Tryz.sizeOf32,Tryz.isAgg32⟩ rfl) ((QdL Tryz.runUnderlying32).up (by decide)) (.cons (by decide) (Qbd ⟨Tryz.sizeOf32,Tryz.isAgg32⟩ rfl) (Qbd ⟨Tryz.sizeOf32,Tryz.isAgg32⟩ rfl) ((QdL Tryz.runUnderlying32).up (by decide)) (.cons (by decide) (Qbd ⟨Tryz.sizeOf4,Tryz.isAgg4⟩ rfl) (Qbd ⟨Tryz.sizeOf4,Tryz.isAgg4⟩ rfl) ((Qpz Tryz.runUnderlying4).up (by decide)) (.cons (by decide) (Qbd ⟨Tryz.sizeOf22,Tryz.isAgg22⟩ rfl) (Qbd ⟨Tryz.sizeOf22,Tryz.isAgg22⟩ rfl) ((QdL Tryz.runUnderlying22).up (by decide)) (.cons (by decide) (Qbd ⟨Tryz.sizeOf22,Tryz.isAgg22⟩ rfl) (Qbd ⟨Tryz.sizeOf22,Tryz.isAgg22⟩ rfl) ((QdL Tryz.runUnderlying22).up (by decide)) .nil)))))
theorem Qic:Bt Tryz.prog 24 [(0,1),(1,1),(2,1),(3,1),(4,1),(5,1),(6,1),(7,1),(8,1),(9,1),(10,1),(11,1),(12,1),(13,1),(14,1),(15,1)] (vc vzero):=QoY Tryz.type24 rfl rfl Tryz.underlying24 Tryz.type22 rfl (k:=1) rfl
theorem QvH:Bt Tryz.prog 96 [(0,1),(1,1)] (dc (⟨0,0⟩:Dot)):=Qcm Tryz.type96 rfl rfl Tryz.underlying96 (by kernel_rfl)
theorem QuT:En Tryz.prog 10:=Tryz.call10
theorem Qml:En Tryz.prog 15:=Tryz.call15
theorem QuY:En Tryz.prog 21:=Tryz.call21
theorem QuR:En Tryz.prog 22:=Tryz.call22
theorem QuS:En Tryz.prog 25:=Tryz.call25
theorem Qsw:Ud Tryz.prog 60 (.slice 83):=Tryz.runUnderlying60
end Tt
end Go.Proofs
namespace Go.Vx
def QdS (l:List Opn) (v:Vec):Bool:=QbO l&&decide (((l.length:Nat):Int)<=30)&&Qbe (Qaz l v)
def Qfg (l:List Opn) (v:Vec):List Opn:=l.filter fun o=>!Qbu v o.dot
def Qdw (l:List Opn) (v:Vec):Pst:=⟨QcV (Qaz l v),Qfg l v,Qbc l⟩
def pzero:Pst:=⟨szero,[],vzero⟩
def Qai (l:List Opn) (v:Vec):Pst:=if QdS l v=true then Qdw l v else pzero
theorem Qgk {α:Type} (p:α->Bool):∀ (l:List α) (k:Nat),∃ m,(l.take k).filter p=(l.filter p).take m
 | [],k=>⟨0,by simp⟩
 | x :: l,0=>⟨0,by simp⟩
 | x :: l,k+1=>by
  obtain ⟨m,h⟩:=Qgk p l k
  rw [List.take_succ_cons,List.filter_cons,List.filter_cons]
  split
  ·exact ⟨m+1,by rw [h,List.take_succ_cons]⟩
  exact ⟨m,h⟩
theorem QiA {l:List Opn} {v:Vec} (hu:Seq (Qaz l v)) (k:Nat):Seq (Qaz (l.take k) v):=by
 obtain ⟨m,h⟩:=Qgk (fun o:Opn=>Qbu v o.dot) l k
 unfold Qaz at hu ⊢
 rw [h];exact hu.take m
theorem Ql9 {l:List Opn} {v:Vec} {k:Nat} {s:Sta} (hu:Seq (Qaz l v)) (hs:s=QcV (Qaz (l.take k) v)) (hk:k<l.length) (hp:Qbu v (gd l k).dot=true):QcQ s (gd l k)=0/\QaS s (gd l k)=QcV (Qaz (l.take (k+1)) v):=by
 subst hs
 have h1:=QiA hu (k+1)
 have e:Qaz (l.take (k+1)) v=Qaz (l.take k) v++[gd l k]:=(Qe7 rfl hk hp).symm
 rw [e] at h1
 have h3:QcQ (QcV (Qaz (l.take k) v)) (gd l k)=0:=by
  unfold QcQ
  rw [if_pos (Qcx.2 h1.cut.1.right),Qcv];exact h1.ready
 exact ⟨h3,by unfold QaS;rw [if_pos h3,e,Qdv]⟩
theorem Qsk {l:List Opn} {v:Vec} {k:Nat} {s:Sta} (hu:Seq (Qaz l v)) (hs:s=QcV (Qaz (l.take k) v)) (hk:k<=l.length):QdE s/\s.ents.length<=k/\s.ticks.length<=k:=by
 subst hs
 have h1:=Qki (Qaz (l.take k) v)
 have h2:=QeR (l.take k) v
 rw [List.length_take] at h2
 exact ⟨(QiA hu k).ok,by omega,by omega⟩
theorem Qpc {l:List Opn} {v:Vec} {k:Nat} {o:List Opn} (h:o=Qfg (l.take k) v) (hk:k<l.length) (hp:Qbu v (gd l k).dot=false):o++[gd l k]=Qfg (l.take (k+1)) v:=by
 unfold Qfg at *;rw [Qbx hk,List.filter_append,← h];simp [hp]
theorem QqN {l:List Opn} {v:Vec} {k:Nat} {o:List Opn} (h:o=Qfg (l.take k) v) (hk:k<l.length) (hp:Qbu v (gd l k).dot=true):o=Qfg (l.take (k+1)) v:=by
 unfold Qfg at *;rw [Qbx hk,List.filter_append,← h];simp [hp]
theorem QlO {l:List Opn} {v:Vec} {k:Nat} {s:Sta} (h:s=QcV (Qaz (l.take k) v)) (hk:k<l.length) (hp:Qbu v (gd l k).dot=false):s=QcV (Qaz (l.take (k+1)) v):=by
 rw [h,← QhI rfl hk hp]
theorem Qh3 {l:List Opn} {u:Vec} {k:Nat} (hq:Seq l) (hu:u=Qbc (l.take k)) (hk:k<l.length):vset u (gd l k).dot.rep.toNat (max (vat u (gd l k).dot.rep.toNat) (gd l k).dot.seq)=Qbc (l.take (k+1)):=by
 have h1:=hq.take (k+1)
 rw [Qbx hk] at h1
 have h2:=Qeq h1.ready
 have h4:=h1.cut.2.2.2.1
 have h5:¬Qbu (Qbc (l.take k)) (gd l k).dot=true:=by rw [h2.2.1];decide
 rw [Qed h4] at h5
 rw [Qbx hk,Qc7,hu]
 congr 1
 omega
theorem Qky {l:List Opn} {v:Vec} (hl:∀ o∈l,Qcc o) (h1:QbO l=true) (h2:Qbe (Qaz l v)=true):Seq l/\Seq (Qaz l v)/\IsClosed (Qaz l v):=by
 obtain ⟨_,_,hq⟩:=Qo5 hl h1
 have hc:=(Qja fun o ho=>hl o (Qb9 ho)).1 h2
 exact ⟨hq,hq.sub (QkC hc),hc⟩
theorem QnZ {l:List Opn} {v:Vec} (h1:QbO l=true) (h2:l.length<=30) (h3:Qbe (Qaz l v)=true):QdS l v=true/\Qai l v=Qdw l v:=by
 have:QdS l v=true:=by unfold QdS;rw [h1,h3,QQ3 (by omega)];rfl
 exact ⟨this,if_pos this⟩
theorem Qm0 {l:List Opn} {v:Vec} (h:(!QbO l||decide (30<((l.length:Nat):Int))||!Qbe (Qaz l v))=true):QdS l v=false/\Qai l v=pzero:=by
 have:QdS l v=false:=by
  unfold QdS
  cases h1:QbO l<;>cases h3:Qbe (Qaz l v)<;>simp [h1,h3] at h ⊢
  omega
 exact ⟨this,if_neg (by rw [this];decide)⟩
theorem Qop {l:List Opn} {v:Vec} {k:Nat} {s:Sta} {o:List Opn} {u:Vec} (hk:¬k<l.length) (hs:s=QcV (Qaz (l.take k) v)) (ho:o=Qfg (l.take k) v) (hu:u=Qbc (l.take k)):Qdw l v=⟨s,o,u⟩:=by
 rw [QcE hk] at hs ho hu
 rw [hs,ho,hu];rfl
end Go.Vx
namespace Go.Vx
theorem Qt8 {v:Vec} {A:List Value} {n i o:Nat} (hA:A.length=n) (h:i<16) (ho:o=n+i):(A++vc v)[o]?=some (.int .u32 (vat v i)):=by
 subst ho;rw [List.getElem?_append_right (by omega),hA,Nat.add_sub_cancel_left];exact QhD v _ h
theorem Qrr {v:Vec} {A:List Value} {n i o:Nat} {x:Int} (hA:A.length=n) (h:i<16) (ho:o=n+i):(A++vc v).set o (.int .u32 x)=A++vc (vset v i x):=by
 subst ho;rw [List.set_append_right _ _ (by omega),hA,Nat.add_sub_cancel_left,Qm3 v _ h x]
theorem Qsv {v:Vec} {A:List Value} {n i o:Nat} (hA:A.length=n) (h:i<16) (ho:o=n+i):o<(A++vc v).length:=by
 rw [QQ7,Qj8];omega
end Go.Vx
namespace Go.Vx
theorem QuB {l:List Opn} (h:QbO l=true/\l.length<=30):(!QbO l||decide (30<((l.length:Nat):Int)))=false:=by rw [h.1,QQ4 (by omega)];rfl
theorem Qqr {l:List Opn} (h:¬(QbO l=true/\l.length<=30)):(!QbO l||decide (30<((l.length:Nat):Int)))=true:=by
 cases h1:QbO l with
 | false=>rfl
 | true=>rw [QQ3 (by have:¬l.length<=30:=fun e=>h ⟨h1,e⟩;omega)];rfl
theorem QoP {l:List Opn} {v:Vec} (h:¬(QbO l=true/\l.length<=30)):QdS l v=false/\Qai l v=pzero:=Qm0 (by rw [Qqr h];rfl)
theorem Qoz {l:List Opn} {v:Vec} (h:Qbe (Qaz l v)=false):QdS l v=false/\Qai l v=pzero:=Qm0 (by rw [h];simp)
end Go.Vx
namespace Go.Vx
theorem Qn2 {A B R S:List Value} (h:B.length=A.length):spl (A++R++S) 0 B=B++R++S:=by
 rw [List.append_assoc,List.append_assoc];exact Qq1 h
end Go.Vx
namespace Go.Proofs
open Go Go.Vx Go.RowKit
namespace Tt
theorem QtJ:En Tryz.prog 69:=Tryz.call69
theorem Qvf:En Tryz.prog 72:=Tryz.call72
end Tt
end Go.Proofs
namespace Go.Vx
theorem Qm9 {p:Pst} (ho:OpsC p.base.known p.ops) (hb:RightC p.base):Qco p=true:=by
 rw [Qf7 fun i hi=>?_]
 ·exact Qcx.2 hb
 have hm:gd p.ops i∈p.ops:=QbB hi
 unfold QjQ
 have h3:((p.ops.take i).any fun x=>decide (x.dot=(gd p.ops i).dot))=false:=by
  rw [List.any_eq_false]
  intro x hx
  obtain ⟨j,hj,rfl⟩:=List.mem_take_iff_getElem.1 hx
  have h4:=List.pairwise_iff_getElem.1 ho.nd j i (by rw [QQ6];omega) (by rw [QQ6];exact hi) (by omega)
  rw [List.getElem_map,List.getElem_map] at h4
  simpa [gd,hi] using h4
 rw [Qb3,ho.ok _ hm,ho.fr _ hm,h3];rfl
theorem QjY {l:List Opn} {v:Vec} (hq:Seq l) (hu:Seq (Qaz l v)):OpsC (QcV (Qaz l v)).known (Qfg l v):=by
 have hm:∀ o∈Qfg l v,o∈l/\Qbu v o.dot=false:=fun o ho=>by
  have:=List.mem_filter.1 ho;exact ⟨this.1,by simpa using this.2⟩
 refine ⟨fun o ho=>(hq.dots o (hm o ho).1).2.2,fun o ho=>?_,hq.nodup.sublist (List.filter_sublist.map _)⟩
 rw [Qcv]
 cases e:Qbu (Qbc (Qaz l v)) o.dot with
 | false=>rfl
 | true =>
  obtain ⟨q,hq1,hq2⟩:=List.mem_map.1 ((hu.has (hq.dots o (hm o ho).1).1).1 e)
  have:=QeZ hq.nodup q (Qb9 hq1) o (hm o ho).1 hq2
  subst this
  have h1:=(List.mem_filter.1 hq1).2
  rw [(hm q ho).2] at h1;cases h1
theorem QkG {l:List Opn} {v:Vec} (hq:Seq l) (hu:Seq (Qaz l v)):Qco (Qdw l v)=true:=Qm9 (QjY hq hu) hu.right
structure PastI (l:List Opn) (v:Vec):Prop where
 ok:Qdq (Qai l v)
 le:(Qai l v).base.ents.length<=400
 lt:(Qai l v).base.ticks.length<=400
 lo:(Qai l v).ops.length<=400
 eq:Qai l v=Qdw l v
 q:Seq l
 u:Seq (Qaz l v)
 len:l.length<=30
theorem Qtb {l:List Opn} {v:Vec} (hl:∀ o∈l,Qcc o) (h:QdS l v=true):PastI l v:=by
 have h0:=h
 unfold QdS at h0
 rw [Bool.and_eq_true,Bool.and_eq_true] at h0
 have h2:=QQ1 h0.1.2
 obtain ⟨hq,hu,hc⟩:=Qky hl h0.1.1 h0.2
 have he:Qai l v=Qdw l v:=if_pos h
 have h3:=Qki (Qaz l v)
 have h4:=QeR l v
 have h5:(Qfg l v).length<=l.length:=List.length_filter_le _ _
 refine ⟨?_,?_,?_,?_,he,hq,hu,by omega⟩
 ·rw [he]
  refine ⟨hu.ok,fun o ho=>hl o (List.mem_filter.1 ho).1,?_⟩
  show QbN (Qbc l)
  rw [← Qcv];exact hq.ok.1
 ·rw [he];show (QcV _).ents.length<=_;omega
 ·rw [he];show (QcV _).ticks.length<=_;omega
 rw [he];show (Qfg l v).length<=_;omega
theorem QpN {l:List Opn} {v:Vec} (hq:Seq l) (hu:Seq (Qaz l v)):vle (Qbc (Qaz l v)) (Qbc l)=true:=by
 refine Qgp fun j hj=>?_
 have hk:=hu.known
 have h0:=hk.1 j
 have hl0:=hq.known.1 j
 rcases Int.lt_or_le 0 (vat (Qbc (Qaz l v)) j) with h|h
 ·have hd:DotP (⟨(j:Int),vat (Qbc (Qaz l v)) j⟩:Dot):=⟨by dsimp only;omega,by dsimp only;omega,by dsimp only;omega,by dsimp only;omega⟩
  have h1:=(hk.2 _ hd).1 (by dsimp only;rw [Int.toNat_natCast];exact Int.le_refl _)
  obtain ⟨o,ho,e⟩:=List.mem_map.1 h1
  have h2:=(hq.known.2 _ hd).2 (List.mem_map.2 ⟨o,Qb9 ho,e⟩)
  dsimp only at h2
  rw [Int.toNat_natCast] at h2;exact h2
 omega
theorem QkI {kn:Vec} {ops:List Opn} (ho:OpsC kn ops):Qaz ops kn=[]:=by
 unfold Qaz
 rw [List.filter_eq_nil_iff]
 intro o hm;rw [ho.fr o hm];decide
theorem Qjx {l:List Opn} {v:Vec} (hq:Seq l) (hu:Seq (Qaz l v)):QaK (Qdw l v) (Qdw l v).base.known=0:=by
 have h1:=QkG hq hu
 have h2:QaR (Qdw l v).base.known 16=true:=hu.right.known
 have h3:vle (Qdw l v).base.known (Qdw l v).known=true:=by
  show vle (QcV _).known (Qbc l)=true
  rw [Qcv];exact QpN hq hu
 unfold QaK
 rw [h1,h2,h3,QoO];rfl
theorem QkP {l:List Opn} {v:Vec} (hq:Seq l) (hu:Seq (Qaz l v)):Qah (Qdw l v) (Qdw l v).base.known=(Qdw l v).base:=by
 unfold Qah
 rw [if_pos (Qjx hq hu)]
 unfold Qg6
 have e:Qaz (Qdw l v).ops (Qdw l v).base.known=[]:=QkI (QjY hq hu)
 rw [e]
 have h1:QiI (Qdw l v).base.ents []=(Qdw l v).base.ents:=by
  unfold QiI Qb0
  have hf:(Qdw l v).base.ents.filter (QgM [])=(Qdw l v).base.ents:=List.filter_eq_self.2 fun x _=>rfl
  rw [List.filter_nil,List.map_nil,List.append_nil,hf]
  exact Qk4 hu.right.re hu.right.nd
 rw [h1];rfl
theorem Qlp {l:List Opn} {v:Vec} (n:Int) (h:PastI l v):QaK (Qai l v) (Qai l v).base.known=0/\Qar (Qai l v) (Qai l v).base.known n=QaC (Qai l v).base n (Qas (Qai l v).base):=by
 rw [h.eq]
 have h1:=Qjx h.q h.u
 refine ⟨h1,?_⟩
 rw [Qfa h1];unfold Qa4;rw [QkP h.q h.u]
def tkv (s:List Lst) (u:List Opn) (c:Int):Int:=(QaJ (QbT s u) c).getD 0
theorem QlS {s:List Lst} {c:Int} (hr:QdC s) (h0:0<=(QaJ s c).getD 0):∀ u:List Opn,(∀ o∈u,0<=o.tick)->(QaJ s c).getD 0<=tkv s u c/\∀ o∈u,o.cart=c->o.tick<=tkv s u c:=by
 refine Qbr (motive:=fun u=>(∀ o∈u,0<=o.tick)->(QaJ s c).getD 0<=tkv s u c/\∀ o∈u,o.cart=c->o.tick<=tkv s u c) (fun _=>⟨Int.le_refl _,fun o h=>by cases h⟩) fun u x ih hx=>?_
 obtain ⟨h1,h2⟩:=ih fun o ho=>hx o (List.mem_append_left _ ho)
 have hx0:=hx x (by simp)
 have e:tkv s (u++[x]) c=if c=x.cart then max (tkv s u c) x.tick else tkv s u c:=by
  unfold tkv
  rw [QbY,QcP (Qcw hr u)]
  by_cases q:c=x.cart
  ·rw [if_pos q,if_pos q,← q]
   unfold tkv at h1
   cases hh:QaJ (QbT s u) c with
   | none=>rw [hh] at h1;simp at h1 ⊢;omega
   | some t=>rfl
  rw [if_neg q,if_neg q]
 rw [e]
 refine ⟨by split<;>omega,fun o ho hc=>?_⟩
 rcases List.mem_append.1 ho with ho|ho
 ·have:=h2 o ho hc;split<;>omega
 simp at ho;subst ho;rw [if_pos hc.symm];omega
theorem QqG {s:List Lst} {c:Int} (hr:QdC s) (h0:0<=(QaJ s c).getD 0):∀ u:List Opn,(∀ o∈u,0<=o.tick)->tkv s u c=(QaJ s c).getD 0∨∃ o∈u,o.cart=c/\o.tick=tkv s u c:=by
 refine Qbr (motive:=fun u=>(∀ o∈u,0<=o.tick)->tkv s u c=(QaJ s c).getD 0∨∃ o∈u,o.cart=c/\o.tick=tkv s u c) (fun _=>.inl rfl) fun u x ih hx=>?_
 have ih2:=ih fun o ho=>hx o (List.mem_append_left _ ho)
 have hg:=QlS hr h0 u fun o ho=>hx o (List.mem_append_left _ ho)
 have hx0:=hx x (by simp)
 have e:tkv s (u++[x]) c=if c=x.cart then max (tkv s u c) x.tick else tkv s u c:=by
  unfold tkv
  rw [QbY,QcP (Qcw hr u)]
  by_cases q:c=x.cart
  ·rw [if_pos q,if_pos q,← q]
   have h1:=hg.1
   unfold tkv at h1
   cases hh:QaJ (QbT s u) c with
   | none=>rw [hh] at h1;simp at h1 ⊢;omega
   | some t=>rfl
  rw [if_neg q,if_neg q]
 rw [e]
 split
 ·rename_i q
  rcases Int.lt_or_le (tkv s u c) x.tick with h|h
  ·exact .inr ⟨x,by simp,q.symm,by omega⟩
  rw [Int.max_eq_left h]
  rcases ih2 with h2|⟨o,ho,h3,h4⟩
  ·exact .inl h2
  exact .inr ⟨o,List.mem_append_left _ ho,h3,h4⟩
 rcases ih2 with h2|⟨o,ho,h3,h4⟩
 ·exact .inl h2
 exact .inr ⟨o,List.mem_append_left _ ho,h3,h4⟩
theorem Qpi {s:List Lst} {c:Int} (hr:QdC s) (h0:0<=(QaJ s c).getD 0) {u w:List Opn} (hw:∀ o∈w,0<=o.tick) (h:∀ o∈u,o∈w):tkv s u c<=tkv s w c:=by
 have hg:=QlS hr h0 w hw
 rcases QqG hr h0 u fun o ho=>hw o (h o ho) with e|⟨o,ho,hc,e⟩
 ·rw [e];exact hg.1
 rw [← e];exact hg.2 o (h o ho) hc
theorem Qfj {p:Pst} {cut:Vec} {n:Int} (hok:Qdq p) (hI:QaK p cut=0):(Qar p cut n).tick=tkv p.base.ticks (Qaz p.ops cut) n:=by
 rw [Qfa hI];unfold Qa4 QaC
 rw [if_pos (QhY hok hI)]
 show (QaJ (Qah p cut).ticks n).getD 0=_
 unfold Qah;rw [if_pos hI];rfl
theorem Qg7 {p:Pst} (hok:Qdq p) (n:Int):0<=(QaJ p.base.ticks n).getD 0:=by
 cases h:QaJ p.base.ticks n with
 | none=>exact Int.le_refl _
 | some t =>
  unfold QaJ at h
  obtain ⟨x,hx,e⟩:=Option.map_eq_some_iff.1 h
  have:=(hok.1.2.2 x (List.mem_of_find?_eq_some hx)).2.1
  simp;omega
theorem QoN {p:Pst} {a b:Vec} {n:Int} (hok:Qdq p) (ha:QaK p a=0) (hb:QaK p b=0) (h:vle a b=true):(Qar p a n).tick<=(Qar p b n).tick:=by
 rw [Qfj hok ha,Qfj hok hb]
 refine Qpi (QcK (Qdz ha).1).2.rt (Qg7 hok n) (fun o ho=>(hok.2.1 o (Qb9 ho)).2.2.2.2.2.1.1) fun o ho=>?_
 have:=List.mem_filter.1 ho
 exact List.mem_filter.2 ⟨this.1,Qh0 h this.2⟩
theorem Qmg {p:Pst} {a:Vec} {n:Int} (hok:Qdq p) (ha:QaK p a=0):(QaC p.base n (Qas p.base)).tick<=(Qar p a n).tick:=by
 rw [Qfj hok ha]
 have hr:=(QcK (Qdz ha).1).2
 unfold QaC;rw [if_pos (Qcx.2 hr)]
 show (QaJ p.base.ticks n).getD 0<=_
 exact (QlS hr.rt (Qg7 hok n) _ fun o ho=>(hok.2.1 o (Qb9 ho)).2.2.2.2.2.1.1).1
end Go.Vx
namespace Go.Vx
theorem Qpu {p:Pst} {a b:Vec} {n:Int} (hok:Qdq p):(((!decide (QaK p a=0)||!decide (QaK p b=0))||!vle a b||decide ((Qar p a n).tick<=(Qar p b n).tick))&&(!decide (QaK p a=0)||decide ((QaC p.base n (Qas p.base)).tick<=(Qar p a n).tick)))=true:=by
 rw [Bool.and_eq_true]
 constructor
 ·by_cases h1:QaK p a=0
  ·by_cases h2:QaK p b=0
   ·cases h3:vle a b with
    | false=>simp
    | true=>simp [QoN hok h1 h2 h3]
   simp [h2]
  simp [h1]
 by_cases h1:QaK p a=0
 ·simp [Qmg (n:=n) hok h1]
 simp [h1]
end Go.Vx
namespace Go.Proofs
open Go Go.Vx Go.RowKit
namespace Tt
theorem Qu6:En Tryz.prog 28:=Tryz.call28
theorem QnL:Ud Tryz.prog 76 (.array 3 24):=Tryz.runUnderlying76
end Tt
end Go.Proofs
namespace Go.Proofs
open Go Go.Vx Go.RowKit
namespace Tt
theorem Qeu (w:World) (x:Int):Calls Tryz.prog 146 #[.int .u8 x] w (fun e w'=>e = .returned (.bool false)/\Own w no w' []):=by
 refine Qaj (n:=6) Tryz.func146 rfl Tryz.ntmps146 rfl ?_
 have hs:=Own.start w
 refine Qag (Qab (Qaa (Qad (V:=.bool false) rfl (Qae (Qag (Qab (Qaa (Qac (V:=.int .u8 x) rfl (Qaa (Qac (V:=.int .u8 x) rfl (Qaa (Qcq rfl rfl (Qaa (Qad (V:=.bool (!decide (x=x))) rfl (Qae (Qaw ?_))))))))))))))))
 refine ⟨_,Qao (V:=.bool (!decide (x=x))) Tryz.results146 rfl,(Zr hs ?_)⟩
 simp
theorem Qd5 (w:World) (x y:Int):Calls Tryz.prog 94 #[.int .u8 x,.int .u8 y] w (fun e w'=>e = .returned (.int .i64 (QaZ x y))/\Own w no w' []):=by
 refine Qaj (n:=20) Tryz.func94 rfl Tryz.ntmps94 rfl ?_
 have hs:=Own.start w
 refine Qag (Qab (Qaa (Qad (V:=I6 0) rfl (Qae (Qag (Qab (Qaa (Qac (V:=.int .u8 x) rfl (Qaa (Qav (vs:=[.int .u8 x]) (V:=.bool false) Qp2 rfl rfl ?hc hs fun w1 hs=>?_))))))))))
 case hc=>exact (Qeu _ x)
 refine Qaa (Qad (V:=.bool false) rfl (Qae (Qag (Qab (Qaa (Qac (V:=.int .u8 y) rfl (Qaa (Qav (vs:=[.int .u8 y]) (V:=.bool false) Qp2 rfl rfl ?hc hs fun w2 hs=>?_))))))))
 case hc=>exact (Qeu _ y)
 refine Qaa (Qad (V:=.bool false) rfl (Qae (Qag (Qag (Qab (Qaa (Qac (V:=.bool false) rfl (Qae (Qb8 rfl ?_)))))))))
 refine Qaq (Qag (Qag (Qab (Qaa (Qac (V:=.bool false) rfl (Qae (Qb8 rfl ?_)))))))
 refine Qaq (Qag (Qag (Qab (Qaa (Qac (V:=.int .u8 x) rfl (Qaa (Qac (V:=.int .u8 y) rfl (Qaa (Qa2 rfl rfl (Qae (Qam (t:=decide (x<y)) rfl (fun c3=>?_) (fun c3=>?_))))))))))))
 ·
  replace c3:=QQ1 c3
  refine Qag (Qab (Qaa (Qad (V:=I6 (-1)) rfl (Qae (Qaw ?_)))))
  refine ⟨_,Qao (V:=I6 (-1)) Tryz.results94 rfl,(Zr hs ?_)⟩
  rw [QcT,if_pos c3]
 replace c3:=QQ2 c3
 refine Qaq (Qag (Qag (Qab (Qaa (Qac (V:=.int .u8 x) rfl (Qaa (Qac (V:=.int .u8 y) rfl (Qaa (Qb2 rfl rfl (Qae (Qam (t:=decide (y<x)) rfl (fun c4=>?_) (fun c4=>?_))))))))))))
 ·
  replace c4:=QQ1 c4
  refine Qag (Qab (Qaa (Qad (V:=I6 1) rfl (Qae (Qaw ?_)))))
  refine ⟨_,Qao (V:=I6 1) Tryz.results94 rfl,(Zr hs ?_)⟩
  rw [QcT,if_neg c3,if_pos c4]
 replace c4:=QQ2 c4
 refine Qaq (Qag (Qab (Qaa (Qad (V:=I6 0) rfl (Qae (Qaw ?_))))))
 refine ⟨_,Qao (V:=I6 0) Tryz.results94 rfl,(Zr hs ?_)⟩
 rw [QcT,if_neg c3,if_neg c4]
theorem Qec (w:World) (x:Int):Calls Tryz.prog 127 #[.int .u16 x] w (fun e w'=>e = .returned (.bool false)/\Own w no w' []):=by
 refine Qaj (n:=6) Tryz.func127 rfl Tryz.ntmps127 rfl ?_
 have hs:=Own.start w
 refine Qag (Qab (Qaa (Qad (V:=.bool false) rfl (Qae (Qag (Qab (Qaa (Qac (V:=I7 x) rfl (Qaa (Qac (V:=I7 x) rfl (Qaa (Qcq rfl rfl (Qaa (Qad (V:=.bool (!decide (x=x))) rfl (Qae (Qaw ?_))))))))))))))))
 refine ⟨_,Qao (V:=.bool (!decide (x=x))) Tryz.results127 rfl,(Zr hs ?_)⟩
 simp
theorem Qc1 (w:World) (x y:Int):Calls Tryz.prog 77 #[.int .u16 x,.int .u16 y] w (fun e w'=>e = .returned (.int .i64 (QaZ x y))/\Own w no w' []):=by
 refine Qaj (n:=20) Tryz.func77 rfl Tryz.ntmps77 rfl ?_
 have hs:=Own.start w
 refine Qag (Qab (Qaa (Qad (V:=I6 0) rfl (Qae (Qag (Qab (Qaa (Qac (V:=I7 x) rfl (Qaa (Qav (vs:=[I7 x]) (V:=.bool false) Qmw rfl rfl ?hc hs fun w1 hs=>?_))))))))))
 case hc=>exact (Qec _ x)
 refine Qaa (Qad (V:=.bool false) rfl (Qae (Qag (Qab (Qaa (Qac (V:=I7 y) rfl (Qaa (Qav (vs:=[I7 y]) (V:=.bool false) Qmw rfl rfl ?hc hs fun w2 hs=>?_))))))))
 case hc=>exact (Qec _ y)
 refine Qaa (Qad (V:=.bool false) rfl (Qae (Qag (Qag (Qab (Qaa (Qac (V:=.bool false) rfl (Qae (Qb8 rfl ?_)))))))))
 refine Qaq (Qag (Qag (Qab (Qaa (Qac (V:=.bool false) rfl (Qae (Qb8 rfl ?_)))))))
 refine Qaq (Qag (Qag (Qab (Qaa (Qac (V:=I7 x) rfl (Qaa (Qac (V:=I7 y) rfl (Qaa (Qa2 rfl rfl (Qae (Qam (t:=decide (x<y)) rfl (fun c3=>?_) (fun c3=>?_))))))))))))
 ·
  replace c3:=QQ1 c3
  refine Qag (Qab (Qaa (Qad (V:=I6 (-1)) rfl (Qae (Qaw ?_)))))
  refine ⟨_,Qao (V:=I6 (-1)) Tryz.results77 rfl,(Zr hs ?_)⟩
  rw [QcT,if_pos c3]
 replace c3:=QQ2 c3
 refine Qaq (Qag (Qag (Qab (Qaa (Qac (V:=I7 x) rfl (Qaa (Qac (V:=I7 y) rfl (Qaa (Qb2 rfl rfl (Qae (Qam (t:=decide (y<x)) rfl (fun c4=>?_) (fun c4=>?_))))))))))))
 ·
  replace c4:=QQ1 c4
  refine Qag (Qab (Qaa (Qad (V:=I6 1) rfl (Qae (Qaw ?_)))))
  refine ⟨_,Qao (V:=I6 1) Tryz.results77 rfl,(Zr hs ?_)⟩
  rw [QcT,if_neg c3,if_pos c4]
 replace c4:=QQ2 c4
 refine Qaq (Qag (Qab (Qaa (Qad (V:=I6 0) rfl (Qae (Qaw ?_))))))
 refine ⟨_,Qao (V:=I6 0) Tryz.results77 rfl,(Zr hs ?_)⟩
 rw [QcT,if_neg c3,if_neg c4]
theorem Qd2 (w:World) (x:Int):Calls Tryz.prog 147 #[.int .u32 x] w (fun e w'=>e = .returned (.bool false)/\Own w no w' []):=by
 refine Qaj (n:=6) Tryz.func147 rfl Tryz.ntmps147 rfl ?_
 have hs:=Own.start w
 refine Qag (Qab (Qaa (Qad (V:=.bool false) rfl (Qae (Qag (Qab (Qaa (Qac (V:=.int .u32 x) rfl (Qaa (Qac (V:=.int .u32 x) rfl (Qaa (Qcq rfl rfl (Qaa (Qad (V:=.bool (!decide (x=x))) rfl (Qae (Qaw ?_))))))))))))))))
 refine ⟨_,Qao (V:=.bool (!decide (x=x))) Tryz.results147 rfl,(Zr hs ?_)⟩
 simp
theorem QdP (w:World) (x y:Int):Calls Tryz.prog 95 #[.int .u32 x,.int .u32 y] w (fun e w'=>e = .returned (.int .i64 (QaZ x y))/\Own w no w' []):=by
 refine Qaj (n:=20) Tryz.func95 rfl Tryz.ntmps95 rfl ?_
 have hs:=Own.start w
 refine Qag (Qab (Qaa (Qad (V:=I6 0) rfl (Qae (Qag (Qab (Qaa (Qac (V:=.int .u32 x) rfl (Qaa (Qav (vs:=[.int .u32 x]) (V:=.bool false) Qqs rfl rfl ?hc hs fun w1 hs=>?_))))))))))
 case hc=>exact (Qd2 _ x)
 refine Qaa (Qad (V:=.bool false) rfl (Qae (Qag (Qab (Qaa (Qac (V:=.int .u32 y) rfl (Qaa (Qav (vs:=[.int .u32 y]) (V:=.bool false) Qqs rfl rfl ?hc hs fun w2 hs=>?_))))))))
 case hc=>exact (Qd2 _ y)
 refine Qaa (Qad (V:=.bool false) rfl (Qae (Qag (Qag (Qab (Qaa (Qac (V:=.bool false) rfl (Qae (Qb8 rfl ?_)))))))))
 refine Qaq (Qag (Qag (Qab (Qaa (Qac (V:=.bool false) rfl (Qae (Qb8 rfl ?_)))))))
 refine Qaq (Qag (Qag (Qab (Qaa (Qac (V:=.int .u32 x) rfl (Qaa (Qac (V:=.int .u32 y) rfl (Qaa (Qa2 rfl rfl (Qae (Qam (t:=decide (x<y)) rfl (fun c3=>?_) (fun c3=>?_))))))))))))
 ·
  replace c3:=QQ1 c3
  refine Qag (Qab (Qaa (Qad (V:=I6 (-1)) rfl (Qae (Qaw ?_)))))
  refine ⟨_,Qao (V:=I6 (-1)) Tryz.results95 rfl,(Zr hs ?_)⟩
  rw [QcT,if_pos c3]
 replace c3:=QQ2 c3
 refine Qaq (Qag (Qag (Qab (Qaa (Qac (V:=.int .u32 x) rfl (Qaa (Qac (V:=.int .u32 y) rfl (Qaa (Qb2 rfl rfl (Qae (Qam (t:=decide (y<x)) rfl (fun c4=>?_) (fun c4=>?_))))))))))))
 ·
  replace c4:=QQ1 c4
  refine Qag (Qab (Qaa (Qad (V:=I6 1) rfl (Qae (Qaw ?_)))))
  refine ⟨_,Qao (V:=I6 1) Tryz.results95 rfl,(Zr hs ?_)⟩
  rw [QcT,if_neg c3,if_pos c4]
 replace c4:=QQ2 c4
 refine Qaq (Qag (Qab (Qaa (Qad (V:=I6 0) rfl (Qae (Qaw ?_))))))
 refine ⟨_,Qao (V:=I6 0) Tryz.results95 rfl,(Zr hs ?_)⟩
 rw [QcT,if_neg c3,if_neg c4]
theorem Qd0 (w:World) (x:Int):Calls Tryz.prog 171 #[.int .u64 x] w (fun e w'=>e = .returned (.bool false)/\Own w no w' []):=by
 refine Qaj (n:=6) Tryz.func171 rfl Tryz.ntmps171 rfl ?_
 have hs:=Own.start w
 refine Qag (Qab (Qaa (Qad (V:=.bool false) rfl (Qae (Qag (Qab (Qaa (Qac (V:=.int .u64 x) rfl (Qaa (Qac (V:=.int .u64 x) rfl (Qaa (Qcq rfl rfl (Qaa (Qad (V:=.bool (!decide (x=x))) rfl (Qae (Qaw ?_))))))))))))))))
 refine ⟨_,Qao (V:=.bool (!decide (x=x))) Tryz.results171 rfl,(Zr hs ?_)⟩
 simp
theorem Qhu (w:World) (x y:Int):Calls Tryz.prog 158 #[.int .u64 x,.int .u64 y] w (fun e w'=>e = .returned (.int .i64 (QaZ x y))/\Own w no w' []):=by
 refine Qaj (n:=20) Tryz.func158 rfl Tryz.ntmps158 rfl ?_
 have hs:=Own.start w
 refine Qag (Qab (Qaa (Qad (V:=I6 0) rfl (Qae (Qag (Qab (Qaa (Qac (V:=.int .u64 x) rfl (Qaa (Qav (vs:=[.int .u64 x]) (V:=.bool false) QpU rfl rfl ?hc hs fun w1 hs=>?_))))))))))
 case hc=>exact (Qd0 _ x)
 refine Qaa (Qad (V:=.bool false) rfl (Qae (Qag (Qab (Qaa (Qac (V:=.int .u64 y) rfl (Qaa (Qav (vs:=[.int .u64 y]) (V:=.bool false) QpU rfl rfl ?hc hs fun w2 hs=>?_))))))))
 case hc=>exact (Qd0 _ y)
 refine Qaa (Qad (V:=.bool false) rfl (Qae (Qag (Qag (Qab (Qaa (Qac (V:=.bool false) rfl (Qae (Qb8 rfl ?_)))))))))
 refine Qaq (Qag (Qag (Qab (Qaa (Qac (V:=.bool false) rfl (Qae (Qb8 rfl ?_)))))))
 refine Qaq (Qag (Qag (Qab (Qaa (Qac (V:=.int .u64 x) rfl (Qaa (Qac (V:=.int .u64 y) rfl (Qaa (Qa2 rfl rfl (Qae (Qam (t:=decide (x<y)) rfl (fun c3=>?_) (fun c3=>?_))))))))))))
 ·
  replace c3:=QQ1 c3
  refine Qag (Qab (Qaa (Qad (V:=I6 (-1)) rfl (Qae (Qaw ?_)))))
  refine ⟨_,Qao (V:=I6 (-1)) Tryz.results158 rfl,(Zr hs ?_)⟩
  rw [QcT,if_pos c3]
 replace c3:=QQ2 c3
 refine Qaq (Qag (Qag (Qab (Qaa (Qac (V:=.int .u64 x) rfl (Qaa (Qac (V:=.int .u64 y) rfl (Qaa (Qb2 rfl rfl (Qae (Qam (t:=decide (y<x)) rfl (fun c4=>?_) (fun c4=>?_))))))))))))
 ·
  replace c4:=QQ1 c4
  refine Qag (Qab (Qaa (Qad (V:=I6 1) rfl (Qae (Qaw ?_)))))
  refine ⟨_,Qao (V:=I6 1) Tryz.results158 rfl,(Zr hs ?_)⟩
  rw [QcT,if_neg c3,if_pos c4]
 replace c4:=QQ2 c4
 refine Qaq (Qag (Qab (Qaa (Qad (V:=I6 0) rfl (Qae (Qaw ?_))))))
 refine ⟨_,Qao (V:=I6 0) Tryz.results158 rfl,(Zr hs ?_)⟩
 rw [QcT,if_neg c3,if_neg c4]
theorem Qrn (w:World) (a:Option Addr) (c:Nat) (l:List Int) (hr:Rd w (.slice a l.length c) 1 (l.map (ic .i64))):Calls Tryz.prog 93 #[.slice a l.length c] w (fun e w'=>e = .returned (.int .i64 (orI l))/\Own w no w' []):=by
 refine Qaj (n:=18) Tryz.func93 rfl Tryz.ntmps93 rfl ?_
 have hs:=Own.start w
 have hn:=hr.sml
 refine Qag (Qab (Qaa (Qad (V:=I6 0) rfl (Qae (Qag (Qab (Qaa (Qad (V:=I6 0) rfl (Qae (Qag (Qag (Qab (Qaa (Qac (V:=.slice a l.length c) rfl (Qaa (Qa3 (n:=l.length) Qqw (Rd.own' hr hs) (by simp) rfl (Qaa (Qac (V:=I6 0) rfl (Qae (Qan (QaG (fun J μ J' w'=>∃ (Jo:Env) (k:Nat),J'=upd (mix ([2,5]++sq 8 9) Jo J) 8 (I6 (k:Int))/\(k<=l.length)/\(∀ j:Nat,j<k->gd l j=0)/\μ=l.length-k/\Own w no w' []) ?_ ?_)))))))))))))))))))))
 ·exact ⟨_,_,0,Qal (Qap (ds:=([2,5]++sq 8 9)) (Agr.refl _ _)) rfl,(by omega),(fun j hj=>absurd hj (Nat.not_lt_zero j)),rfl,hs⟩
 rintro μ J' w1 ⟨Jo,k,rfl,hk,h0,rfl,hs⟩
 refine Qag (Qab (Qaa (Qa2 rfl rfl (Qae (Qag (Qam (t:=decide ((k:Int)<((l.length:Nat):Int))) rfl (fun c2=>?_) (fun c2=>?_)))))))
 ·
  replace c2:=QQ1 c2
  refine Qaq (Qag (Qan (Qag (Qab (Qaa (Qax Qqw Qrd.1 (Rd.own' hr hs) rfl rfl (by omega) (by rw [QQ6];omega) (Qaa (QaW (j:=0) (V:=I6 (gd l k)) k Qrd (Rd.own' hr hs) (Qba (by omega)) rfl rfl (by omega) (Qaa (Qad (V:=I6 (gd l k)) rfl (Qae (Qag (Qab (Qaa (Qac (V:=I6 (gd l k)) rfl (Qaa (Qac (V:=I6 0) rfl (Qaa (Qcq rfl rfl (Qae (Qam (t:=!decide (gd l k=0)) rfl (fun c3=>?_) (fun c3=>?_))))))))))))))))))))))
  ·
   replace c3:=Qby c3
   replace c3:=QQ2 c3
   refine Qag (Qab (Qaa (Qac (V:=I6 (gd l k)) rfl (Qaa (Qad (V:=I6 (gd l k)) rfl (Qae (Qaw ?_)))))))
   refine ⟨_,Qao (V:=I6 (gd l k)) Tryz.results93 rfl,(Zr hs ?_)⟩
   exact congrArg (Value.int IntKind.i64) (QqF (by omega) h0 c3).symm
  replace c3:=Qbq c3
  replace c3:=QQ1 c3
  refine Qaq (Qab (Qaa (QaF (a:=(k:Int)) (b:=1) (c:=(k:Int)+1) rfl rfl (QbA (by omega) (by omega)) (Qaa (Qac (V:=I6 ((k:Int)+1)) rfl (Qae ?_))))))
  refine ⟨_,?_,_,k+1,Qal (Qap (ds:=([2,5]++sq 8 9)) (by repeat (first|exact Agr.refl _ _|refine Agr.upd ?_ rfl|refine Agr.mix ?_ rfl))) rfl,(by omega),(Qrh h0 c3),rfl,hs.take 0⟩
  omega
 replace c2:=QQ2 c2
 refine QaL (Qag (Qab (Qaa (Qac (V:=I6 0) rfl (Qaa (Qad (V:=I6 0) rfl (Qae (Qaw ?_))))))))
 refine ⟨_,Qao (V:=I6 0) Tryz.results93 rfl,(Zr hs ?_)⟩
 exact congrArg (Value.int IntKind.i64) (Qt9 fun j hj=>h0 j (by omega)).symm
end Tt
end Go.Proofs
namespace Go.Proofs
open Go Go.Vx Go.RowKit
namespace Tt
theorem QiG (w:World) (a:Option Addr) (c:Nat) (l:List Cen) (hN:l.length*25<=140737488355328) (hr:Rd w (.slice a l.length c) 7 (l.map cec)):Calls Tryz.prog 39 #[.slice a l.length c] w (fun e w'=>∃ x:Option Addr × Nat,e = .returned (.slice x.1 (l).length x.2)/\Own w no w' [row (.slice x.1 (l).length x.2) ((l).map cec) 106 7]/\True):=by
 refine Qaj (n:=8) Tryz.func39 rfl Tryz.ntmps39 rfl ?_
 have hs:=Own.start w
 have hn:=hr.sml
 refine Qag (Qab (Qaa (Qad (V:=.slice none 0 0) rfl (Qae (Qag (Qag (Qab (Qaa (Qac (V:=.slice a l.length c) rfl (Qaa (QuF QcX rfl rfl (Qae (Qam (t:=a.isNone) rfl (fun c1=>?_) (fun c1=>?_))))))))))))))
 ·
  refine Qag (Qab (Qaa (Qad (V:=.slice none 0 0) rfl (Qae (Qaw ?_)))))
  refine ⟨_,Qao (V:=.slice none 0 0) Tryz.results39 rfl,?_⟩
  have hl0:=hr.isN c1
  subst hl0
  exact ⟨(none,0),rfl,(hs.take 0).more _ (Qbf _ _ _ _),trivial⟩
 refine Qaq (Qag (Qab (Qaa (QhP (vals:=[]) (ls:=List.map cec ([]:List Cen)) QeK rfl rfl rfl (Qbm (enc:=cec) (fun _=>rfl) _) (QaV Qbl _) (QQ8 rfl) hs fun b2 w3 hs=>(Qaa (Qac (V:=.slice a l.length c) rfl (Qaa (Qdk (ls':=l.map cec) (n:=l.length) QeK hs 0 rfl rfl rfl (Rd.own' hr hs) (QaV Qbl _) (by simp only [QQ6,QQ7,List.length_cons,List.length_nil];omega) (by simp) (by simp) fun a4 c4 w5 hs=>(Qaa (Qad (V:=.slice a4 l.length c4) rfl (Qae (Qaw ?_))))))))))))
 refine ⟨_,Qao (V:=.slice a4 l.length c4) Tryz.results39 rfl,?_⟩
 exact ⟨(a4,c4),rfl,hs.only 0 rfl,trivial⟩
theorem Qmp (w:World) (a:Option Addr) (c:Nat) (l:List Lst) (hN:l.length*9<=140737488355328) (hr:Rd w (.slice a l.length c) 2 (l.map lsc)):Calls Tryz.prog 153 #[.slice a l.length c] w (fun e w'=>∃ x:Option Addr × Nat,e = .returned (.slice x.1 (l).length x.2)/\Own w no w' [row (.slice x.1 (l).length x.2) ((l).map lsc) 102 2]/\True):=by
 refine Qaj (n:=8) Tryz.func153 rfl Tryz.ntmps153 rfl ?_
 have hs:=Own.start w
 have hn:=hr.sml
 refine Qag (Qab (Qaa (Qad (V:=.slice none 0 0) rfl (Qae (Qag (Qag (Qab (Qaa (Qac (V:=.slice a l.length c) rfl (Qaa (QuF QdR rfl rfl (Qae (Qam (t:=a.isNone) rfl (fun c1=>?_) (fun c1=>?_))))))))))))))
 ·
  refine Qag (Qab (Qaa (Qad (V:=.slice none 0 0) rfl (Qae (Qaw ?_)))))
  refine ⟨_,Qao (V:=.slice none 0 0) Tryz.results153 rfl,?_⟩
  have hl0:=hr.isN c1
  subst hl0
  exact ⟨(none,0),rfl,(hs.take 0).more _ (Qbf _ _ _ _),trivial⟩
 refine Qaq (Qag (Qab (Qaa (QhP (vals:=[]) (ls:=List.map lsc ([]:List Lst)) Qgu rfl rfl rfl (Qbm (enc:=lsc) (fun _=>rfl) _) (QaV Qcg _) (QQ8 rfl) hs fun b2 w3 hs=>(Qaa (Qac (V:=.slice a l.length c) rfl (Qaa (Qdk (ls':=l.map lsc) (n:=l.length) Qgu hs 0 rfl rfl rfl (Rd.own' hr hs) (QaV Qcg _) (by simp only [QQ6,QQ7,List.length_cons,List.length_nil];omega) (by simp) (by simp) fun a4 c4 w5 hs=>(Qaa (Qad (V:=.slice a4 l.length c4) rfl (Qae (Qaw ?_))))))))))))
 refine ⟨_,Qao (V:=.slice a4 l.length c4) Tryz.results153 rfl,?_⟩
 exact ⟨(a4,c4),rfl,hs.only 0 rfl,trivial⟩
theorem Qlt (w:World) (a:Option Addr) (c:Nat) (l:List Cen) (t:Cen) (hsmall:l.length<=4611686018427387904) (g:Nat) (hg:En Tryz.prog g) (cf:Cen->Int) (hcmp:∀ (w:World) (x:Cen),Calls Tryz.prog g #[.agg (cec x).toArray,.agg (cec t).toArray] w (fun e w'=>e = .returned (.int .i64 (cf x))/\Own w no w' [])) (hm:Qnm (fun x=>decide (cf x<0)) l) (hr:Rd w (.slice a l.length c) 7 (l.map cec)):Calls Tryz.prog 119 #[.slice a l.length c,.agg (cec t).toArray,.func (.func g) #[] #[]] w (fun e w'=>e = .returned (.tuple #[.int .i64 ((Qcl (fun x=>decide (cf x<0)) l:Nat):Int),.bool (decide (Qcl (fun x=>decide (cf x<0)) l<l.length)&&decide (cf (gd l (Qcl (fun x=>decide (cf x<0)) l))=0))])/\Own w no w' []):=by
 refine Qaj (n:=49) Tryz.func119 rfl Tryz.ntmps119 rfl ?_
 have hs:=Own.start w
 have hn:=hr.sml
 have hn2:l.length<=4611686018427387904:=hsmall
 refine Qag (Qab (Qaa (Qa5 (V:=.agg (cec t).toArray) (cs:=cec t) rfl rfl hs fun b1 w2 hs=>(Qaa (Qad (V:=I6 0) rfl (Qaa (Qad (V:=.bool false) rfl (Qae (Qag (Qab (Qaa (Qac (V:=.slice a l.length c) rfl (Qaa (Qa3 (n:=l.length) QbD (Rd.own' hr hs) (by simp) rfl (Qaa (Qad (V:=I6 ((l.length:Nat):Int)) rfl (Qae (Qag (Qab (Qaa (Qac (V:=I6 ((l.length:Nat):Int)) rfl (Qaa (Qad (V:=I6 0) rfl (Qaa (Qad (V:=I6 ((l.length:Nat):Int)) rfl (Qae (Qag (Qan (QaG (fun J μ J' w'=>∃ (Jo:Env) (i:Nat) (j:Nat),J'=upd (upd (mix ([9,10,11]++sq 15 20) Jo J) 9 (I6 (i:Int))) 10 (I6 (j:Int))/\(i<=Qcl (fun x=>decide (cf x<0)) l)/\(Qcl (fun x=>decide (cf x<0)) l<=j)/\(j<=l.length)/\μ=j-i/\Own w no w' [blk b1 (cec t) 106]) ?_ ?_)))))))))))))))))))))))))))))
 ·exact ⟨_,_,0,l.length,Qal (Qal (Qap (ds:=([9,10,11]++sq 15 20)) (Agr.refl _ _)) rfl) rfl,(Nat.zero_le _),QfQ,(Nat.le_refl _),rfl,hs⟩
 rintro μ J' w3 ⟨Jo,i,j,rfl,hip,hpj,hjl,rfl,hs⟩
 refine Qag (Qag (Qab (Qaa (Qac (V:=I6 (i:Int)) rfl (Qaa (Qac (V:=I6 (j:Int)) rfl (Qaa (Qa2 rfl rfl (Qae (Qam (t:=decide ((i:Int)<(j:Int))) rfl (fun c4=>?_) (fun c4=>?_)))))))))))
 ·
  replace c4:=QQ1 c4
  refine Qaq (Qan (Qag (Qab (Qaa (Qac (V:=I6 (i:Int)) rfl (Qaa (Qac (V:=I6 (j:Int)) rfl (Qaa (QaF (a:=(i:Int)) (b:=(j:Int)) (c:=((i+j:Nat):Int)) rfl rfl (Qak (by omega) (by omega)) (Qaa (Qcn QhR Qde rfl (QdQ (by omega) (by omega)) (Qaa (QgR rfl rfl (Qaa (Qcn Qde QhR rfl (QbA (by omega) (by omega)) (Qaa (Qad (V:=I6 (((i+j)/2:Nat):Int)) rfl (Qae (Qag (QaI HM [some 24,some 25,some 26,some 27,some 28,some 29,some 30,some 31] [] [0,0,0,6,14,0,63,127] [pv (.func (.func g) #[] #[]),pv (.slice a l.length c),pv (I6 (((i+j)/2:Nat):Int)),pv (.pointer (some ⟨bkS (.slice a l.length c),ofS (.slice a l.length c)+(((i+j)/2:Nat):Int).toNat*7,none⟩)),pv (.agg (cec (gd l ((i+j)/2))).toArray),pv (.agg (cec t).toArray),pv (I6 (cf (gd l ((i+j)/2)))),pv (.bool (decide (cf (gd l ((i+j)/2))<0)))] (fun _ _=>_) [7] (by kernel_rfl) hs ⟨?_,?_,?_,?_,?_,?_,?_,?_,trivial⟩ ?_))))))))))))))))))))
  ·exact oa [] fun D J w hs=>Qac (V:=.func (.func g) #[] #[]) rfl (Zz hs)
  ·exact oa [] fun D J w hs=>Qac (V:=.slice a l.length c) rfl (Zz hs)
  ·exact oa [] fun D J w hs=>Qac (V:=.int .i64 (((i+j)/2:Nat):Int)) rfl (Zz hs)
  ·exact oa [1,2] fun D J w hs=>Qax QbD QaD.1 (Rd.own' hr hs) rfl rfl (by omega) (by rw [QQ6];omega) (Zz hs)
  ·exact oa [3] fun D J w hs=>Qbb (j:=0) (vs:=cec (gd l ((i+j)/2))) ((i+j)/2) QaD (Rd.own' hr hs) (Qba (by omega)) rfl rfl rfl (by omega) (Zz hs)
  ·exact oa [] fun D J w hs=>QaP (cs:=cec t) QaD hs 0 rfl rfl rfl (Zz hs)
  ·exact oa [0,4,5] fun D J w hs=>Qfd (vs:=[.agg (cec (gd l ((i+j)/2))).toArray,.agg (cec t).toArray]) (cs:=[]) (V:=.int .i64 (cf (gd l ((i+j)/2)))) hg rfl rfl (hcmp _ (gd l ((i+j)/2))) hs fun _ hs=>Zz hs
  ·exact oa [6] fun D J w hs=>Qa2 rfl rfl (Zz hs)
  rintro J1 w6 J2 hJ hs
  replace hJ:J2=upd (mix (sq 24 8) J1 _) 31 (.bool (decide (cf (gd l ((i+j)/2))<0))):=hJ
  subst hJ
  refine Qam (t:=decide (cf (gd l ((i+j)/2))<0)) rfl (fun c7=>?_) (fun c7=>?_)
  ·
   replace c7:=QQ1 c7
   refine Qab (Qaa (Qac (V:=I6 (((i+j)/2:Nat):Int)) rfl (Qaa (QaF (a:=(((i+j)/2:Nat):Int)) (b:=1) (c:=((((i+j)/2)+1:Nat):Int)) rfl rfl (Qak (by omega) (by omega)) (Qaa (Qad (V:=I6 ((((i+j)/2)+1:Nat):Int)) rfl (Qae ?_)))))))
   refine ⟨_,?_,_,((i+j)/2)+1,j,Qal (Qal (Qap (ds:=([9,10,11]++sq 15 20)) (by repeat (first|exact Agr.refl _ _|refine Agr.upd ?_ rfl|refine Agr.mix ?_ rfl))) rfl) rfl,(by have:=QlR (f:=(fun x=>decide (cf x<0))) hm (by omega) (QQ3 c7);omega),(by omega),(by omega),rfl,hs.take 1⟩
   omega
  replace c7:=QQ2 c7
  refine Qab (Qaa (Qac (V:=I6 (((i+j)/2:Nat):Int)) rfl (Qaa (Qad (V:=I6 (((i+j)/2:Nat):Int)) rfl (Qae ?_)))))
  refine ⟨_,?_,_,i,(i+j)/2,Qal (Qal (Qap (ds:=([9,10,11]++sq 15 20)) (by repeat (first|exact Agr.refl _ _|refine Agr.upd ?_ rfl|refine Agr.mix ?_ rfl))) rfl) rfl,(by omega),(by have:=Qhs (f:=(fun x=>decide (cf x<0))) (l:=l) (QQ4 c7);omega),(by omega),rfl,hs.take 1⟩
  omega
 replace c4:=QQ2 c4
 refine QaL (Qag ?_)
 have hij:i=j:=by omega
 refine QaI HM [some 35,some 36,some 37,some 38,some 39,some 40,some 41,some 42,some 43,some 44,some 45,some 46,some 47,some 48,some 6,some 7] [] [0,0,0,6,14,30,30,30,222,478,30,2046,4094,8190,4095,32767] [pv (I6 (i:Int)),pv (I6 (i:Int)),pv (I6 ((l.length:Nat):Int)),pv (.bool (decide ((i:Int)<((l.length:Nat):Int)))),pv (.bool (decide ((i:Int)<((l.length:Nat):Int)))),pg ((decide ((i:Int)<((l.length:Nat):Int))) == true) (.func (.func g) #[] #[]),pg ((decide ((i:Int)<((l.length:Nat):Int))) == true) (.slice a l.length c),pg ((decide ((i:Int)<((l.length:Nat):Int))) == true) (I6 (i:Int)),pg ((decide ((i:Int)<((l.length:Nat):Int))) == true) (.pointer (some ⟨bkS (.slice a l.length c),ofS (.slice a l.length c)+(i:Int).toNat*7,none⟩)),pg ((decide ((i:Int)<((l.length:Nat):Int))) == true) (.agg (cec (gd l i)).toArray),pg ((decide ((i:Int)<((l.length:Nat):Int))) == true) (.agg (cec t).toArray),pg ((decide ((i:Int)<((l.length:Nat):Int))) == true) (I6 (cf (gd l i))),pg ((decide ((i:Int)<((l.length:Nat):Int))) == true) (.bool (decide (cf (gd l i)=0))),pv (.bool ((decide ((i:Int)<((l.length:Nat):Int)))&&(decide (cf (gd l i)=0)))),pv (I6 (i:Int)),pv (.bool ((decide ((i:Int)<((l.length:Nat):Int)))&&(decide (cf (gd l i)=0))))] (fun _ _=>_) [15,14] (by kernel_rfl) hs ⟨?_,?_,?_,?_,?_,?_,?_,?_,?_,?_,?_,?_,?_,?_,?_,?_,trivial⟩ ?_
 ·exact oa [] fun D J w hs=>Qac (V:=.int .i64 (i:Int)) rfl (Zz hs)
 ·exact oa [] fun D J w hs=>Qac (V:=.int .i64 (i:Int)) rfl (Zz hs)
 ·exact oa [] fun D J w hs=>Qac (V:=.int .i64 ((l.length:Nat):Int)) rfl (Zz hs)
 ·exact oa [1,2] fun D J w hs=>Qa2 rfl rfl (Zz hs)
 ·exact oa [3] fun D J w hs=>Qac (V:=.bool (decide ((i:Int)<((l.length:Nat):Int)))) rfl (Zz hs)
 ·exact og [4] fun D J w hG hs=>Qac (V:=.func (.func g) #[] #[]) rfl (Zz hs)
 ·exact og [4] fun D J w hG hs=>Qac (V:=.slice a l.length c) rfl (Zz hs)
 ·exact og [4] fun D J w hG hs=>Qac (V:=.int .i64 (i:Int)) rfl (Zz hs)
 ·refine oy [4,6,7] [6,7] fun D J w hG hs=>?_
  have hgd:=QQ1 (eq_of_beq (hG))
  exact Qax QbD QaD.1 (Rd.own' hr hs) rfl rfl (by omega) (by rw [QQ6];omega) (Zz hs)
 ·refine oy [4,8] [8] fun D J w hG hs=>?_
  have hgd:=QQ1 (eq_of_beq (hG))
  exact Qbb (j:=0) (vs:=cec (gd l i)) i QaD (Rd.own' hr hs) (Qba (by omega)) rfl rfl rfl (by omega) (Zz hs)
 ·exact og [4] fun D J w hG hs=>QaP (cs:=cec t) QaD hs 0 rfl rfl rfl (Zz hs)
 ·exact oy [4,5,9,10] [5,9,10] fun D J w hG hs=>Qfd (vs:=[.agg (cec (gd l i)).toArray,.agg (cec t).toArray]) (cs:=[]) (V:=.int .i64 (cf (gd l i))) hg rfl rfl (hcmp _ (gd l i)) hs fun _ hs=>Zz hs
 ·exact oy [4,11] [11] fun D J w hG hs=>Qa1 rfl rfl (Zz hs)
 ·exact oa [4,12] fun D J w hs=>Qbj (h':=decide (cf (gd l i)=0)) rfl rfl rfl (Zz hs)
 ·exact oa [0] fun D J w hs=>Qad (V:=.int .i64 (i:Int)) rfl (Zz hs)
 ·exact oa [13] fun D J w hs=>Qad (V:=.bool ((decide ((i:Int)<((l.length:Nat):Int)))&&(decide (cf (gd l i)=0)))) rfl (Zz hs)
 rintro J1 w9 J2 hJ hs
 replace hJ:J2=upd (upd (mix (sq 35 14++[6,7]) J1 _) 6 (I6 (i:Int))) 7 (.bool ((decide ((i:Int)<((l.length:Nat):Int)))&&(decide (cf (gd l i)=0)))):=hJ
 subst hJ
 refine Qaw ?_
 refine ⟨_,QbG (U:=I6 (i:Int)) (V:=.bool ((decide ((i:Int)<((l.length:Nat):Int)))&&(decide (cf (gd l i)=0)))) Tryz.results119 rfl rfl,(Zr hs ?_)⟩
 have hip2:i=Qcl (fun x=>decide (cf x<0)) l:=by omega
 rw [← hip2]
 congr 3
 by_cases h:i<l.length<;>simp [h]
theorem Qlz (w:World) (a:Option Addr) (c:Nat) (l:List Lst) (t:Int) (hsmall:l.length<=4611686018427387904) (g:Nat) (hg:En Tryz.prog g) (cf:Lst->Int) (hcmp:∀ (w:World) (x:Lst),Calls Tryz.prog g #[.agg (lsc x).toArray,.int .u16 t] w (fun e w'=>e = .returned (.int .i64 (cf x))/\Own w no w' [])) (hm:Qnm (fun x=>decide (cf x<0)) l) (hr:Rd w (.slice a l.length c) 2 (l.map lsc)):Calls Tryz.prog 124 #[.slice a l.length c,.int .u16 t,.func (.func g) #[] #[]] w (fun e w'=>e = .returned (.tuple #[.int .i64 ((Qcl (fun x=>decide (cf x<0)) l:Nat):Int),.bool (decide (Qcl (fun x=>decide (cf x<0)) l<l.length)&&decide (cf (gd l (Qcl (fun x=>decide (cf x<0)) l))=0))])/\Own w no w' []):=by
 refine Qaj (n:=49) Tryz.func124 rfl Tryz.ntmps124 rfl ?_
 have hs:=Own.start w
 have hn:=hr.sml
 have hn2:l.length<=4611686018427387904:=hsmall
 refine Qag (Qab (Qaa (Qad (V:=I6 0) rfl (Qaa (Qad (V:=.bool false) rfl (Qae (Qag (Qab (Qaa (Qac (V:=.slice a l.length c) rfl (Qaa (Qa3 (n:=l.length) Qet (Rd.own' hr hs) (by simp) rfl (Qaa (Qad (V:=I6 ((l.length:Nat):Int)) rfl (Qae (Qag (Qab (Qaa (Qac (V:=I6 ((l.length:Nat):Int)) rfl (Qaa (Qad (V:=I6 0) rfl (Qaa (Qad (V:=I6 ((l.length:Nat):Int)) rfl (Qae (Qag (Qan (QaG (fun J μ J' w'=>∃ (Jo:Env) (i:Nat) (j:Nat),J'=upd (upd (mix ([9,10,11]++sq 15 20) Jo J) 9 (I6 (i:Int))) 10 (I6 (j:Int))/\(i<=Qcl (fun x=>decide (cf x<0)) l)/\(Qcl (fun x=>decide (cf x<0)) l<=j)/\(j<=l.length)/\μ=j-i/\Own w no w' []) ?_ ?_)))))))))))))))))))))))))))
 ·exact ⟨_,_,0,l.length,Qal (Qal (Qap (ds:=([9,10,11]++sq 15 20)) (Agr.refl _ _)) rfl) rfl,(Nat.zero_le _),QfQ,(Nat.le_refl _),rfl,hs⟩
 rintro μ J' w1 ⟨Jo,i,j,rfl,hip,hpj,hjl,rfl,hs⟩
 refine Qag (Qag (Qab (Qaa (Qac (V:=I6 (i:Int)) rfl (Qaa (Qac (V:=I6 (j:Int)) rfl (Qaa (Qa2 rfl rfl (Qae (Qam (t:=decide ((i:Int)<(j:Int))) rfl (fun c2=>?_) (fun c2=>?_)))))))))))
 ·
  replace c2:=QQ1 c2
  refine Qaq (Qan (Qag (Qab (Qaa (Qac (V:=I6 (i:Int)) rfl (Qaa (Qac (V:=I6 (j:Int)) rfl (Qaa (QaF (a:=(i:Int)) (b:=(j:Int)) (c:=((i+j:Nat):Int)) rfl rfl (Qak (by omega) (by omega)) (Qaa (Qcn QhR Qde rfl (QdQ (by omega) (by omega)) (Qaa (QgR rfl rfl (Qaa (Qcn Qde QhR rfl (QbA (by omega) (by omega)) (Qaa (Qad (V:=I6 (((i+j)/2:Nat):Int)) rfl (Qae (Qag (Qab (Qaa (Qac (V:=.func (.func g) #[] #[]) rfl (Qaa (Qac (V:=.slice a l.length c) rfl (Qaa (Qac (V:=I6 (((i+j)/2:Nat):Int)) rfl (Qaa (Qax Qet QbM.1 (Rd.own' hr hs) rfl rfl (by omega) (by rw [QQ6];omega) (Qaa (Qbb (j:=0) (vs:=lsc (gd l ((i+j)/2))) ((i+j)/2) QbM (Rd.own' hr hs) (Qba (by omega)) rfl rfl rfl (by omega) (Qaa (Qac (V:=I7 t) rfl (Qaa (Qfd (vs:=[.agg (lsc (gd l ((i+j)/2))).toArray,I7 t]) (cs:=[]) (V:=I6 (cf (gd l ((i+j)/2)))) hg rfl rfl (hcmp _ (gd l ((i+j)/2))) hs fun w3 hs=>(Qaa (Qa2 rfl rfl (Qae (Qam (t:=decide (cf (gd l ((i+j)/2))<0)) rfl (fun c4=>?_) (fun c4=>?_)))))))))))))))))))))))))))))))))))))))
  ·
   replace c4:=QQ1 c4
   refine Qab (Qaa (Qac (V:=I6 (((i+j)/2:Nat):Int)) rfl (Qaa (QaF (a:=(((i+j)/2:Nat):Int)) (b:=1) (c:=((((i+j)/2)+1:Nat):Int)) rfl rfl (Qak (by omega) (by omega)) (Qaa (Qad (V:=I6 ((((i+j)/2)+1:Nat):Int)) rfl (Qae ?_)))))))
   refine ⟨_,?_,_,((i+j)/2)+1,j,Qal (Qal (Qap (ds:=([9,10,11]++sq 15 20)) (by repeat (first|exact Agr.refl _ _|refine Agr.upd ?_ rfl|refine Agr.mix ?_ rfl))) rfl) rfl,(by have:=QlR (f:=(fun x=>decide (cf x<0))) hm (by omega) (QQ3 c4);omega),(by omega),(by omega),rfl,hs.take 0⟩
   omega
  replace c4:=QQ2 c4
  refine Qab (Qaa (Qac (V:=I6 (((i+j)/2:Nat):Int)) rfl (Qaa (Qad (V:=I6 (((i+j)/2:Nat):Int)) rfl (Qae ?_)))))
  refine ⟨_,?_,_,i,(i+j)/2,Qal (Qal (Qap (ds:=([9,10,11]++sq 15 20)) (by repeat (first|exact Agr.refl _ _|refine Agr.upd ?_ rfl|refine Agr.mix ?_ rfl))) rfl) rfl,(by omega),(by have:=Qhs (f:=(fun x=>decide (cf x<0))) (l:=l) (QQ4 c4);omega),(by omega),rfl,hs.take 0⟩
  omega
 replace c2:=QQ2 c2
 refine QaL (Qag ?_)
 have hij:i=j:=by omega
 refine Qbv [some 35,some 36,some 37,some 38,some 39,some 40,some 41,some 42,some 43,some 44,some 45,some 46,some 47,some 48,some 6,some 7] [] [0,0,0,6,14,30,30,30,222,478,30,2046,4094,8190,4095,32767] [pv (I6 (i:Int)),pv (I6 (i:Int)),pv (I6 ((l.length:Nat):Int)),pv (.bool (decide ((i:Int)<((l.length:Nat):Int)))),pv (.bool (decide ((i:Int)<((l.length:Nat):Int)))),pg ((decide ((i:Int)<((l.length:Nat):Int))) == true) (.func (.func g) #[] #[]),pg ((decide ((i:Int)<((l.length:Nat):Int))) == true) (.slice a l.length c),pg ((decide ((i:Int)<((l.length:Nat):Int))) == true) (I6 (i:Int)),pg ((decide ((i:Int)<((l.length:Nat):Int))) == true) (.pointer (some ⟨bkS (.slice a l.length c),ofS (.slice a l.length c)+(i:Int).toNat*2,none⟩)),pg ((decide ((i:Int)<((l.length:Nat):Int))) == true) (.agg (lsc (gd l i)).toArray),pg ((decide ((i:Int)<((l.length:Nat):Int))) == true) (I7 t),pg ((decide ((i:Int)<((l.length:Nat):Int))) == true) (I6 (cf (gd l i))),pg ((decide ((i:Int)<((l.length:Nat):Int))) == true) (.bool (decide (cf (gd l i)=0))),pv (.bool ((decide ((i:Int)<((l.length:Nat):Int)))&&(decide (cf (gd l i)=0)))),pv (I6 (i:Int)),pv (.bool ((decide ((i:Int)<((l.length:Nat):Int)))&&(decide (cf (gd l i)=0))))] (fun _ _=>_) [15,14] (by kernel_rfl) hs ⟨?_,?_,?_,?_,?_,?_,?_,?_,?_,?_,?_,?_,?_,?_,?_,?_,trivial⟩ ?_
 ·exact oa [] fun D J w hs=>Qac (V:=.int .i64 (i:Int)) rfl (Zz hs)
 ·exact oa [] fun D J w hs=>Qac (V:=.int .i64 (i:Int)) rfl (Zz hs)
 ·exact oa [] fun D J w hs=>Qac (V:=.int .i64 ((l.length:Nat):Int)) rfl (Zz hs)
 ·exact oa [1,2] fun D J w hs=>Qa2 rfl rfl (Zz hs)
 ·exact oa [3] fun D J w hs=>Qac (V:=.bool (decide ((i:Int)<((l.length:Nat):Int)))) rfl (Zz hs)
 ·exact og [4] fun D J w hG hs=>Qac (V:=.func (.func g) #[] #[]) rfl (Zz hs)
 ·exact og [4] fun D J w hG hs=>Qac (V:=.slice a l.length c) rfl (Zz hs)
 ·exact og [4] fun D J w hG hs=>Qac (V:=.int .i64 (i:Int)) rfl (Zz hs)
 ·refine oy [4,6,7] [6,7] fun D J w hG hs=>?_
  have hgd:=QQ1 (eq_of_beq (hG))
  exact Qax Qet QbM.1 (Rd.own' hr hs) rfl rfl (by omega) (by rw [QQ6];omega) (Zz hs)
 ·refine oy [4,8] [8] fun D J w hG hs=>?_
  have hgd:=QQ1 (eq_of_beq (hG))
  exact Qbb (j:=0) (vs:=lsc (gd l i)) i QbM (Rd.own' hr hs) (Qba (by omega)) rfl rfl rfl (by omega) (Zz hs)
 ·exact og [4] fun D J w hG hs=>Qac (V:=.int .u16 t) rfl (Zz hs)
 ·exact oy [4,5,9,10] [5,9,10] fun D J w hG hs=>Qfd (vs:=[.agg (lsc (gd l i)).toArray,.int .u16 t]) (cs:=[]) (V:=.int .i64 (cf (gd l i))) hg rfl rfl (hcmp _ (gd l i)) hs fun _ hs=>Zz hs
 ·exact oy [4,11] [11] fun D J w hG hs=>Qa1 rfl rfl (Zz hs)
 ·exact oa [4,12] fun D J w hs=>Qbj (h':=decide (cf (gd l i)=0)) rfl rfl rfl (Zz hs)
 ·exact oa [0] fun D J w hs=>Qad (V:=.int .i64 (i:Int)) rfl (Zz hs)
 ·exact oa [13] fun D J w hs=>Qad (V:=.bool ((decide ((i:Int)<((l.length:Nat):Int)))&&(decide (cf (gd l i)=0)))) rfl (Zz hs)
 rintro J1 w6 J2 hJ hs
 replace hJ:J2=upd (upd (mix (sq 35 14++[6,7]) J1 _) 6 (I6 (i:Int))) 7 (.bool ((decide ((i:Int)<((l.length:Nat):Int)))&&(decide (cf (gd l i)=0)))):=hJ
 subst hJ
 refine Qaw ?_
 refine ⟨_,QbG (U:=I6 (i:Int)) (V:=.bool ((decide ((i:Int)<((l.length:Nat):Int)))&&(decide (cf (gd l i)=0)))) Tryz.results124 rfl rfl,(Zr hs ?_)⟩
 have hip2:i=Qcl (fun x=>decide (cf x<0)) l:=by omega
 rw [← hip2]
 congr 3
 by_cases h:i<l.length<;>simp [h]
end Tt
end Go.Proofs
namespace Go.Proofs
open Go Go.Vx Go.RowKit
namespace Tt
theorem Qkk (w:World) (x y:Cen):Calls Tryz.prog 120 #[.agg (cec x).toArray,.agg (cec y).toArray] w (fun e w'=>e = .returned (.int .i64 (QbQ x y))/\Own w no w' []):=by
 refine Qaj (n:=26) Tryz.func120 rfl Tryz.ntmps120 rfl ?_
 have hs:=Own.start w
 refine Qag (Qab (Qaa (Qa5 (V:=.agg (cec x).toArray) (cs:=cec x) rfl rfl hs fun b1 w2 hs=>(Qaa (Qa5 (V:=.agg (cec y).toArray) (cs:=cec y) rfl rfl hs fun b3 w4 hs=>(Qaa (Qad (V:=I6 0) rfl (Qae (Qag ?_)))))))))
 replace hs:=hs.more emp trivial
 refine QaI HM [some 5,some 6,some 7,some 8,some 9,some 10,some 11,some 12,some 13,some 14,some 15,some 16,some 17,some 18,some 19,some 20,some 21,some 22,some 23,some 24,some 25,some 4] [[],[],[],[],[],[],[],[],[],[],[],[],[],[],[],[],[],[],[],[24]] [0,1,0,4,15,0,32,96,0,256,768,2047,0,4096,12288,0,32768,98304,262143,524287,1048575,2097151] [pv (Pq b1 (0+0)),pv (I7 x.cart),pv (Pq b3 (0+0)),pv (I7 y.cart),pv (I6 (QaZ x.cart y.cart)),pv (Pq b1 (0+4)),pv (Pq b1 (0+4+0)),pv (.int .u8 x.dot.rep),pv (Pq b3 (0+4)),pv (Pq b3 (0+4+0)),pv (.int .u8 y.dot.rep),pv (I6 (QaZ x.dot.rep y.dot.rep)),pv (Pq b1 (0+4)),pv (Pq b1 (0+4+1)),pv (.int .u32 x.dot.seq),pv (Pq b3 (0+4)),pv (Pq b3 (0+4+1)),pv (.int .u32 y.dot.seq),pv (I6 (QaZ x.dot.seq y.dot.seq)),(true,fun J=>.slice (some ⟨(bOf (J 24)),0,none⟩) 3 3),pv (I6 (orI [QaZ x.cart y.cart,QaZ x.dot.rep y.dot.rep,QaZ x.dot.seq y.dot.seq])),pv (I6 (orI [QaZ x.cart y.cart,QaZ x.dot.rep y.dot.rep,QaZ x.dot.seq y.dot.seq]))] (fun D J=>[blk b1 (cec x) 106,blk b3 (cec y) 106,cond (D 19) (row (.slice (some ⟨(bOf (J 24)),0,none⟩) 3 3) ([QaZ x.cart y.cart,QaZ x.dot.rep y.dot.rep,QaZ x.dot.seq y.dot.seq].map (ic .i64)) 3 1) (emp)]) [21] (by kernel_rfl) hs ⟨?_,?_,?_,?_,?_,?_,?_,?_,?_,?_,?_,?_,?_,?_,?_,?_,?_,?_,?_,?_,?_,?_,trivial⟩ ?_
 ·exact oa [] fun D J w hs=>Qaf Qdj rfl (Zz hs)
 ·exact oa [0] fun D J w hs=>QaQ (V:=.int .u16 x.cart) Qat hs 0 rfl rfl rfl (Zz hs)
 ·exact oa [] fun D J w hs=>Qaf Qdj rfl (Zz hs)
 ·exact oa [2] fun D J w hs=>QaQ (V:=.int .u16 y.cart) Qat hs 1 rfl rfl rfl (Zz hs)
 ·exact oa [1,3] fun D J w hs=>Qav (vs:=[.int .u16 x.cart,.int .u16 y.cart]) (V:=.int .i64 (QaZ x.cart y.cart)) QoK rfl rfl (Qc1 _ x.cart y.cart) hs fun _ hs=>Zz hs
 ·exact oa [] fun D J w hs=>Qaf QbL rfl (Zz hs)
 ·exact oa [5] fun D J w hs=>Qaf QbX rfl (Zz hs)
 ·exact oa [6] fun D J w hs=>QaQ (V:=.int .u8 x.dot.rep) QdF hs 0 rfl rfl rfl (Zz hs)
 ·exact oa [] fun D J w hs=>Qaf QbL rfl (Zz hs)
 ·exact oa [8] fun D J w hs=>Qaf QbX rfl (Zz hs)
 ·exact oa [9] fun D J w hs=>QaQ (V:=.int .u8 y.dot.rep) QdF hs 1 rfl rfl rfl (Zz hs)
 ·exact oa [7,10] fun D J w hs=>Qav (vs:=[.int .u8 x.dot.rep,.int .u8 y.dot.rep]) (V:=.int .i64 (QaZ x.dot.rep y.dot.rep)) Qrl rfl rfl (Qd5 _ x.dot.rep y.dot.rep) hs fun _ hs=>Zz hs
 ·exact oa [] fun D J w hs=>Qaf QbL rfl (Zz hs)
 ·exact oa [12] fun D J w hs=>Qaf QbV rfl (Zz hs)
 ·exact oa [13] fun D J w hs=>QaQ (V:=.int .u32 x.dot.seq) QaU hs 0 rfl rfl rfl (Zz hs)
 ·exact oa [] fun D J w hs=>Qaf QbL rfl (Zz hs)
 ·exact oa [15] fun D J w hs=>Qaf QbV rfl (Zz hs)
 ·exact oa [16] fun D J w hs=>QaQ (V:=.int .u32 y.dot.seq) QaU hs 1 rfl rfl rfl (Zz hs)
 ·exact oa [14,17] fun D J w hs=>Qav (vs:=[.int .u32 x.dot.seq,.int .u32 y.dot.seq]) (V:=.int .i64 (QaZ x.dot.seq y.dot.seq)) Qrs rfl rfl (QdP _ x.dot.seq y.dot.seq) hs fun _ hs=>Zz hs
 ·exact oa [4,11,18] fun D J w hs=>QhP (vals:=[.int .i64 (QaZ x.cart y.cart),.int .i64 (QaZ x.dot.rep y.dot.rep),.int .i64 (QaZ x.dot.seq y.dot.seq)]) (ls:=List.map (ic .i64) ([QaZ x.cart y.cart,QaZ x.dot.rep y.dot.rep,QaZ x.dot.seq y.dot.seq]:List Int)) Qlo rfl rfl rfl (Qbm (enc:=(ic .i64)) (fun _=>rfl) _) (QaV (Qfz .i64) _) (QQ8 rfl) hs fun _ _ hs=>⟨rfl,hs.put 2 (QQ8 rfl)⟩
 ·exact oa [19] fun D J w hs=>Qav (vs:=[.slice (some ⟨(bOf (J 24)),0,none⟩) 3 3]) (V:=.int .i64 (orI [QaZ x.cart y.cart,QaZ x.dot.rep y.dot.rep,QaZ x.dot.seq y.dot.seq])) QrW rfl rfl (Qrn _ (some ⟨(bOf (J 24)),0,none⟩) 3 [QaZ x.cart y.cart,QaZ x.dot.rep y.dot.rep,QaZ x.dot.seq y.dot.seq] (hs.rd 2 rfl)) hs fun _ hs=>Zz hs
 ·exact oa [20] fun D J w hs=>Qad (V:=.int .i64 (orI [QaZ x.cart y.cart,QaZ x.dot.rep y.dot.rep,QaZ x.dot.seq y.dot.seq])) rfl (Zz hs)
 rintro J1 w10 J2 hJ hs
 replace hJ:J2=upd (mix (sq 5 21++[4]) J1 _) 4 (I6 (orI [QaZ x.cart y.cart,QaZ x.dot.rep y.dot.rep,QaZ x.dot.seq y.dot.seq])):=hJ
 replace hs:Own w no w10 [blk b1 (cec x) 106,blk b3 (cec y) 106,row (.slice (some ⟨(bOf (J1 24)),0,none⟩) 3 3) ([QaZ x.cart y.cart,QaZ x.dot.rep y.dot.rep,QaZ x.dot.seq y.dot.seq].map (ic .i64)) 3 1]:=hs
 generalize (bOf (J1 24))=b11 at hs
 subst hJ
 refine Qaw ?_
 refine ⟨_,Qao (V:=I6 (orI [QaZ x.cart y.cart,QaZ x.dot.rep y.dot.rep,QaZ x.dot.seq y.dot.seq])) Tryz.results120 rfl,(Zr hs ?_)⟩
 rfl
theorem QkR (w:World) (x:Cen) (hx:QiY x):Calls Tryz.prog 123 #[.agg (cec x).toArray] w (fun e w'=>e = .returned (.bool (QcW x))/\Own w no w' []):=by
 refine Qaj (n:=25) Tryz.func123 rfl Tryz.ntmps123 rfl ?_
 have hs:=Own.start w
 refine Qag (Qab (Qaa (Qa5 (V:=.agg (cec x).toArray) (cs:=cec x) rfl rfl hs fun b1 w2 hs=>(Qaa (Qad (V:=.bool false) rfl (Qae (Qag (Qag (Qab (Qaa (Qaf Qef rfl (Qaa (QaQ (V:=.int .u8 x.kind) QdF hs 0 rfl rfl rfl (Qae (Qan (Qag (Qab (Qaa (Qa1 rfl rfl (Qaa (Qad (V:=.bool (decide (x.kind=1))) rfl (Qae (Qam (t:=decide (x.kind=1)) rfl (fun c3=>?_) (fun c3=>?_))))))))))))))))))))))))
 ·
  replace c3:=QQ1 c3
  refine Qag (Qab (Qaa (Qaf Qei rfl (Qaa (QaQ (V:=I7 x.qty) Qat hs 0 rfl rfl rfl (Qaa (Qb2 rfl rfl (Qaa (Qad (V:=.bool (decide (0<x.qty))) rfl (Qae (Qaw ?_)))))))))))
  refine ⟨_,Qao (V:=.bool (decide (0<x.qty))) Tryz.results123 rfl,(Zr hs (congrArg Value.bool ?_))⟩
  unfold QcW
  have ⟨_,_,⟨hq1,hq2⟩,_,_,_⟩:=hx
  simp_all [Bool.and_assoc]
  try omega
 replace c3:=QQ2 c3
 refine Qag (Qab (Qaa (Qa1 rfl rfl (Qaa (Qad (V:=.bool (decide (x.kind=2))) rfl (Qae (Qam (t:=decide (x.kind=2)) rfl (fun c4=>?_) (fun c4=>?_))))))))
 ·
  replace c4:=QQ1 c4
  refine Qag (Qab (Qaa (Qad (V:=.bool true) rfl (Qae (Qaw ?_)))))
  refine ⟨_,Qao (V:=.bool true) Tryz.results123 rfl,(Zr hs (congrArg Value.bool ?_))⟩
  unfold QcW
  have ⟨_,_,⟨hq1,hq2⟩,_,_,_⟩:=hx
  simp_all [Bool.and_assoc]
  try omega
 replace c4:=QQ2 c4
 refine Qaq (Qag (Qbv [some 12,some 13,some 14,some 15,some 16,some 17,some 18,some 19,some 20,some 21,some 22,some 23,some 24,some 2] [] [0,1,3,7,15,31,63,127,255,511,1023,2047,4095,8191] [pv (Pq b1 (0+3)),pv (.int .u8 x.kind),pv (.bool (decide (x.kind=4))),pv (.bool (decide (x.kind=4))),pg ((decide (x.kind=4)) == true) (Pq b1 (0+1)),pg ((decide (x.kind=4)) == true) (I7 x.item),pg ((decide (x.kind=4)) == true) (.bool (decide (x.item=0))),pv (.bool ((decide (x.kind=4))&&(decide (x.item=0)))),pv (.bool ((decide (x.kind=4))&&(decide (x.item=0)))),pg (((decide (x.kind=4))&&(decide (x.item=0))) == true) (Pq b1 (0+2)),pg (((decide (x.kind=4))&&(decide (x.item=0))) == true) (I7 x.qty),pg (((decide (x.kind=4))&&(decide (x.item=0))) == true) (.bool (decide (x.qty=0))),pv (.bool (((decide (x.kind=4))&&(decide (x.item=0)))&&(decide (x.qty=0)))),pv (.bool (((decide (x.kind=4))&&(decide (x.item=0)))&&(decide (x.qty=0))))] (fun _ _=>_) [13] (by kernel_rfl) hs ⟨?_,?_,?_,?_,?_,?_,?_,?_,?_,?_,?_,?_,?_,?_,trivial⟩ ?_))
 ·exact oa [] fun D J w hs=>Qaf Qef rfl (Zz hs)
 ·exact oa [0] fun D J w hs=>QaQ (V:=.int .u8 x.kind) QdF hs 0 rfl rfl rfl (Zz hs)
 ·exact oa [1] fun D J w hs=>Qa1 rfl rfl (Zz hs)
 ·exact oa [2] fun D J w hs=>Qac (V:=.bool (decide (x.kind=4))) rfl (Zz hs)
 ·exact og [3] fun D J w hG hs=>Qaf Qdg rfl (Zz hs)
 ·exact oy [3,4] [4] fun D J w hG hs=>QaQ (V:=.int .u16 x.item) Qat hs 0 rfl rfl rfl (Zz hs)
 ·exact oy [3,5] [5] fun D J w hG hs=>Qa1 rfl rfl (Zz hs)
 ·exact oa [3,6] fun D J w hs=>Qbj (h':=decide (x.item=0)) rfl rfl rfl (Zz hs)
 ·exact oa [7] fun D J w hs=>Qac (V:=.bool ((decide (x.kind=4))&&(decide (x.item=0)))) rfl (Zz hs)
 ·exact og [8] fun D J w hG hs=>Qaf Qei rfl (Zz hs)
 ·exact oy [8,9] [9] fun D J w hG hs=>QaQ (V:=.int .u16 x.qty) Qat hs 0 rfl rfl rfl (Zz hs)
 ·exact oy [8,10] [10] fun D J w hG hs=>Qa1 rfl rfl (Zz hs)
 ·exact oa [8,11] fun D J w hs=>Qbj (h':=decide (x.qty=0)) rfl rfl rfl (Zz hs)
 ·exact oa [12] fun D J w hs=>Qad (V:=.bool (((decide (x.kind=4))&&(decide (x.item=0)))&&(decide (x.qty=0)))) rfl (Zz hs)
 rintro J1 w5 J2 hJ hs
 replace hJ:J2=upd (mix (sq 12 13++[2]) J1 _) 2 (.bool (((decide (x.kind=4))&&(decide (x.item=0)))&&(decide (x.qty=0)))):=hJ
 subst hJ
 refine Qaw ?_
 refine ⟨_,Qao (V:=.bool (((decide (x.kind=4))&&(decide (x.item=0)))&&(decide (x.qty=0)))) Tryz.results123 rfl,(Zr hs (congrArg Value.bool ?_))⟩
 unfold QcW
 have ⟨_,_,⟨hq1,hq2⟩,_,_,_⟩:=hx
 simp_all [Bool.and_assoc]
 try omega
theorem Qpg (w:World) (x:Lst) (c:Int):Calls Tryz.prog 125 #[.agg (lsc x).toArray,.int .u16 c] w (fun e w'=>e = .returned (.int .i64 (QaZ x.cart c))/\Own w no w' []):=by
 refine Qaj (n:=9) Tryz.func125 rfl Tryz.ntmps125 rfl ?_
 have hs:=Own.start w
 refine Qag (Qab (Qaa (Qa5 (V:=.agg (lsc x).toArray) (cs:=lsc x) rfl rfl hs fun b1 w2 hs=>(Qaa (Qad (V:=I6 0) rfl (Qae (Qag (Qab (Qaa (Qaf Qel rfl (Qaa (QaQ (V:=I7 x.cart) Qat hs 0 rfl rfl rfl (Qaa (Qac (V:=I7 c) rfl (Qaa (Qav (vs:=[I7 x.cart,I7 c]) (V:=I6 (QaZ x.cart c)) QoK rfl rfl ?hc hs fun w3 hs=>?_))))))))))))))))
 case hc=>exact (Qc1 _ x.cart c)
 refine Qaa (Qad (V:=I6 (QaZ x.cart c)) rfl (Qae (Qaw ?_)))
 refine ⟨_,Qao (V:=I6 (QaZ x.cart c)) Tryz.results125 rfl,(Zr hs ?_)⟩
 rfl
theorem QhM (w:World) (kn:Vec) (v1:Value) (a2:Option Addr) (c2:Nat) (ts:List Lst) (c:Int) (hlt:ts.length<=100000) (hT:QdC ts) (hr2:Rd w (.slice a2 ts.length c2) 2 (ts.map lsc)):Calls Tryz.prog 74 #[.agg ((vc kn)++[(v1:Value),(.slice a2 ts.length c2:Value) ]).toArray,.int .u16 c] w (fun e w'=>e = .returned (.tuple #[.int .i64 ((QbJ ts c:Nat):Int),.bool (QaJ ts c).isSome])/\Own w no w' []):=by
 refine Qaj (n:=12) Tryz.func74 rfl Tryz.ntmps74 rfl ?_
 have hs:=Own.start w
 refine Qag (Qab (Qaa (Qa5 (V:=.agg ((vc kn)++[(v1:Value),(.slice a2 ts.length c2:Value) ]).toArray) (cs:=(vc kn)++[(v1:Value),(.slice a2 ts.length c2:Value) ]) rfl rfl hs fun b1 w2 hs=>(Qaa (Qad (V:=I6 0) rfl (Qaa (Qad (V:=.bool false) rfl (Qae (Qag (Qab (Qaa (Qaf QcI rfl (Qaa (QaQ (V:=.slice a2 ts.length c2) Qfr hs 0 rfl rfl rfl (Qaa (Qac (V:=I7 c) rfl (Qaa (QjM (vs:=[.slice a2 ts.length c2,I7 c,.func (.func 125) #[] #[]]) (V:=.tuple #[I6 ((Qcl (fun x=>decide ((fun x:Lst=>QaZ x.cart c) x<0)) ts:Nat):Int),.bool (decide (Qcl (fun x=>decide ((fun x:Lst=>QaZ x.cart c) x<0)) ts<ts.length)&&decide ((fun x:Lst=>QaZ x.cart c) (gd ts (Qcl (fun x=>decide ((fun x:Lst=>QaZ x.cart c) x<0)) ts))=0))]) (V':=.tuple #[I6 ((QbJ ts c:Nat):Int),.bool ((QaJ ts c).isSome)]) (by rw [← QkF hT c];rfl) Qs7 rfl rfl (Qlz _ a2 c2 ts c (by omega) 125 Qs4 (fun x:Lst=>QaZ x.cart c) (fun w x=>Qpg w x c) (Qmi hT c) (Rd.own' hr2 hs)) hs fun w3 hs=>(Qaa (Qay (V:=I6 ((QbJ ts c:Nat):Int)) rfl rfl (Qaa (Qay (V:=.bool ((QaJ ts c).isSome)) rfl rfl (Qaa (Qad (V:=I6 ((QbJ ts c:Nat):Int)) rfl (Qaa (Qad (V:=.bool ((QaJ ts c).isSome)) rfl (Qae (Qaw ?_))))))))))))))))))))))))))))
 refine ⟨_,QbG (U:=I6 ((QbJ ts c:Nat):Int)) (V:=.bool ((QaJ ts c).isSome)) Tryz.results74 rfl rfl,(Zr hs ?_)⟩
 rfl
end Tt
end Go.Proofs
namespace Go.Proofs
open Go Go.Vx Go.RowKit
namespace Tt
theorem QrS (w:World) (d:Dot):Calls Tryz.prog 86 #[.agg (dc d).toArray] w (fun e w'=>e = .returned (.bool (QbH d))/\Own w no w' []):=by
 refine Qaj (n:=16) Tryz.func86 rfl Tryz.ntmps86 rfl ?_
 have hs:=Own.start w
 refine Qag (Qab (Qaa (Qa5 (V:=.agg (dc d).toArray) (cs:=dc d) rfl rfl hs fun b1 w2 hs=>(Qaa (Qad (V:=.bool false) rfl (Qae (Qag (Qbv [some 3,some 4,some 5,some 6,some 7,some 8,some 9,some 10,some 11,some 12,some 13,some 14,some 15,some 2] [] [0,1,3,7,15,31,63,127,255,511,1023,2047,4095,8191] [pv (Pq b1 (0+0)),pv (.int .u8 d.rep),pv (.bool (decide (d.rep<16))),pv (.bool (decide (d.rep<16))),pg ((decide (d.rep<16)) == true) (Pq b1 (0+1)),pg ((decide (d.rep<16)) == true) (.int .u32 d.seq),pg ((decide (d.rep<16)) == true) (.bool (decide (1<=d.seq))),pv (.bool ((decide (d.rep<16))&&(decide (1<=d.seq)))),pv (.bool ((decide (d.rep<16))&&(decide (1<=d.seq)))),pg (((decide (d.rep<16))&&(decide (1<=d.seq))) == true) (Pq b1 (0+1)),pg (((decide (d.rep<16))&&(decide (1<=d.seq))) == true) (.int .u32 d.seq),pg (((decide (d.rep<16))&&(decide (1<=d.seq))) == true) (.bool (decide (d.seq<=1048576))),pv (.bool (((decide (d.rep<16))&&(decide (1<=d.seq)))&&(decide (d.seq<=1048576)))),pv (.bool (((decide (d.rep<16))&&(decide (1<=d.seq)))&&(decide (d.seq<=1048576))))] (fun _ _=>_) [13] (by kernel_rfl) hs ⟨?_,?_,?_,?_,?_,?_,?_,?_,?_,?_,?_,?_,?_,?_,trivial⟩ ?_))))))))
 ·exact oa [] fun D J w hs=>Qaf QbX rfl (Zz hs)
 ·exact oa [0] fun D J w hs=>QaQ (V:=.int .u8 d.rep) QdF hs 0 rfl rfl rfl (Zz hs)
 ·exact oa [1] fun D J w hs=>Qa2 rfl rfl (Zz hs)
 ·exact oa [2] fun D J w hs=>Qac (V:=.bool (decide (d.rep<16))) rfl (Zz hs)
 ·exact og [3] fun D J w hG hs=>Qaf QbV rfl (Zz hs)
 ·exact oy [3,4] [4] fun D J w hG hs=>QaQ (V:=.int .u32 d.seq) QaU hs 0 rfl rfl rfl (Zz hs)
 ·exact oy [3,5] [5] fun D J w hG hs=>QcY rfl rfl (Zz hs)
 ·exact oa [3,6] fun D J w hs=>Qbj (h':=decide (1<=d.seq)) rfl rfl rfl (Zz hs)
 ·exact oa [7] fun D J w hs=>Qac (V:=.bool ((decide (d.rep<16))&&(decide (1<=d.seq)))) rfl (Zz hs)
 ·exact og [8] fun D J w hG hs=>Qaf QbV rfl (Zz hs)
 ·exact oy [8,9] [9] fun D J w hG hs=>QaQ (V:=.int .u32 d.seq) QaU hs 0 rfl rfl rfl (Zz hs)
 ·exact oy [8,10] [10] fun D J w hG hs=>QdK rfl rfl (Zz hs)
 ·exact oa [8,11] fun D J w hs=>Qbj (h':=decide (d.seq<=1048576)) rfl rfl rfl (Zz hs)
 ·exact oa [12] fun D J w hs=>Qad (V:=.bool (((decide (d.rep<16))&&(decide (1<=d.seq)))&&(decide (d.seq<=1048576)))) rfl (Zz hs)
 rintro J1 w3 J2 hJ hs
 replace hJ:J2=upd (mix (sq 3 13++[2]) J1 _) 2 (.bool (((decide (d.rep<16))&&(decide (1<=d.seq)))&&(decide (d.seq<=1048576)))):=hJ
 subst hJ
 refine Qaw ?_
 refine ⟨_,Qao (V:=.bool (((decide (d.rep<16))&&(decide (1<=d.seq)))&&(decide (d.seq<=1048576)))) Tryz.results86 rfl,(Zr hs ?_)⟩
 rfl
theorem QiV (w:World) (d:Dot):Calls Tryz.prog 112 #[.agg (dc d).toArray] w (fun e w'=>e = .returned (.bool (QbH d))/\Own w no w' []):=by
 refine Qaj (n:=16) Tryz.func112 rfl Tryz.ntmps112 rfl ?_
 have hs:=Own.start w
 refine Qag (Qab (Qaa (Qa5 (V:=.agg (dc d).toArray) (cs:=dc d) rfl rfl hs fun b1 w2 hs=>(Qaa (Qad (V:=.bool false) rfl (Qae (Qag (Qbv [some 3,some 4,some 5,some 6,some 7,some 8,some 9,some 10,some 11,some 12,some 13,some 14,some 15,some 2] [] [0,1,3,7,15,31,63,127,255,511,1023,2047,4095,8191] [pv (Pq b1 (0+0)),pv (.int .u8 d.rep),pv (.bool (decide (d.rep<16))),pv (.bool (decide (d.rep<16))),pg ((decide (d.rep<16)) == true) (Pq b1 (0+1)),pg ((decide (d.rep<16)) == true) (.int .u32 d.seq),pg ((decide (d.rep<16)) == true) (.bool (decide (1<=d.seq))),pv (.bool ((decide (d.rep<16))&&(decide (1<=d.seq)))),pv (.bool ((decide (d.rep<16))&&(decide (1<=d.seq)))),pg (((decide (d.rep<16))&&(decide (1<=d.seq))) == true) (Pq b1 (0+1)),pg (((decide (d.rep<16))&&(decide (1<=d.seq))) == true) (.int .u32 d.seq),pg (((decide (d.rep<16))&&(decide (1<=d.seq))) == true) (.bool (decide (d.seq<=1048576))),pv (.bool (((decide (d.rep<16))&&(decide (1<=d.seq)))&&(decide (d.seq<=1048576)))),pv (.bool (((decide (d.rep<16))&&(decide (1<=d.seq)))&&(decide (d.seq<=1048576))))] (fun _ _=>_) [13] (by kernel_rfl) hs ⟨?_,?_,?_,?_,?_,?_,?_,?_,?_,?_,?_,?_,?_,?_,trivial⟩ ?_))))))))
 ·exact oa [] fun D J w hs=>Qaf QbX rfl (Zz hs)
 ·exact oa [0] fun D J w hs=>QaQ (V:=.int .u8 d.rep) QdF hs 0 rfl rfl rfl (Zz hs)
 ·exact oa [1] fun D J w hs=>Qa2 rfl rfl (Zz hs)
 ·exact oa [2] fun D J w hs=>Qac (V:=.bool (decide (d.rep<16))) rfl (Zz hs)
 ·exact og [3] fun D J w hG hs=>Qaf QbV rfl (Zz hs)
 ·exact oy [3,4] [4] fun D J w hG hs=>QaQ (V:=.int .u32 d.seq) QaU hs 0 rfl rfl rfl (Zz hs)
 ·exact oy [3,5] [5] fun D J w hG hs=>QcY rfl rfl (Zz hs)
 ·exact oa [3,6] fun D J w hs=>Qbj (h':=decide (1<=d.seq)) rfl rfl rfl (Zz hs)
 ·exact oa [7] fun D J w hs=>Qac (V:=.bool ((decide (d.rep<16))&&(decide (1<=d.seq)))) rfl (Zz hs)
 ·exact og [8] fun D J w hG hs=>Qaf QbV rfl (Zz hs)
 ·exact oy [8,9] [9] fun D J w hG hs=>QaQ (V:=.int .u32 d.seq) QaU hs 0 rfl rfl rfl (Zz hs)
 ·exact oy [8,10] [10] fun D J w hG hs=>QdK rfl rfl (Zz hs)
 ·exact oa [8,11] fun D J w hs=>Qbj (h':=decide (d.seq<=1048576)) rfl rfl rfl (Zz hs)
 ·exact oa [12] fun D J w hs=>Qad (V:=.bool (((decide (d.rep<16))&&(decide (1<=d.seq)))&&(decide (d.seq<=1048576)))) rfl (Zz hs)
 rintro J1 w3 J2 hJ hs
 replace hJ:J2=upd (mix (sq 3 13++[2]) J1 _) 2 (.bool (((decide (d.rep<16))&&(decide (1<=d.seq)))&&(decide (d.seq<=1048576)))):=hJ
 subst hJ
 refine Qaw ?_
 refine ⟨_,Qao (V:=.bool (((decide (d.rep<16))&&(decide (1<=d.seq)))&&(decide (d.seq<=1048576)))) Tryz.results112 rfl,(Zr hs ?_)⟩
 rfl
theorem Qgz (w:World) (v:Vec) (d:Dot) (hd:Qc9 d):Calls Tryz.prog 40 #[.agg (vc v).toArray,.agg (dc d).toArray] w (fun e w'=>e = .returned (.bool (Qbu v d))/\Own w no w' []):=by
 refine Qaj (n:=16) Tryz.func40 rfl Tryz.ntmps40 rfl ?_
 have hs:=Own.start w
 have ⟨⟨hd1,hd2⟩,hd3,hd4⟩:=hd
 refine Qag (Qab (Qaa (Qa5 (V:=.agg (vc v).toArray) (cs:=vc v) rfl rfl hs fun b1 w2 hs=>(Qaa (Qa5 (V:=.agg (dc d).toArray) (cs:=dc d) rfl rfl hs fun b3 w4 hs=>(Qaa (Qad (V:=.bool false) rfl (Qae (Qag (QaI HM [some 5,some 6,some 7,some 8,some 9,some 10,some 11,some 12,some 13,some 14,some 15,some 4] [] [0,1,3,7,15,7,39,103,231,511,1023,2047] [pv (.agg (dc d).toArray),pv (.bool (QbH d)),pv (.bool (QbH d)),pg ((QbH d) == true) (Pq b3 (0+1)),pg ((QbH d) == true) (.int .u32 d.seq),pg ((QbH d) == true) (Pq b3 (0+0)),pg ((QbH d) == true) (.int .u8 d.rep),pg ((QbH d) == true) (.pointer (some ⟨b1,0+d.rep.toNat,none⟩)),pg ((QbH d) == true) (.int .u32 (vat v d.rep.toNat)),pg ((QbH d) == true) (.bool (decide (d.seq<=vat v d.rep.toNat))),pv (.bool ((QbH d)&&(decide (d.seq<=vat v d.rep.toNat)))),pv (.bool ((QbH d)&&(decide (d.seq<=vat v d.rep.toNat))))] (fun _ _=>_) [11] (by kernel_rfl) hs ⟨?_,?_,?_,?_,?_,?_,?_,?_,?_,?_,?_,?_,trivial⟩ ?_))))))))))
 ·exact oa [] fun D J w hs=>QaP (cs:=dc d) QcH hs 1 rfl rfl rfl (Zz hs)
 ·exact oa [0] fun D J w hs=>Qav (vs:=[.agg (dc d).toArray]) (V:=.bool (QbH d)) Qvw rfl rfl (QrS _ d) hs fun _ hs=>Zz hs
 ·exact oa [1] fun D J w hs=>Qac (V:=.bool (QbH d)) rfl (Zz hs)
 ·refine og [2] fun D J w hG hs=>?_
  have hb:=QaO (eq_of_beq hG)
  exact Qaf QbV rfl (Zz hs)
 ·refine oy [2,3] [3] fun D J w hG hs=>?_
  have hb:=QaO (eq_of_beq hG)
  exact QaQ (V:=.int .u32 d.seq) QaU hs 1 rfl rfl rfl (Zz hs)
 ·refine og [2] fun D J w hG hs=>?_
  have hb:=QaO (eq_of_beq hG)
  exact Qaf QbX rfl (Zz hs)
 ·refine oy [2,5] [5] fun D J w hG hs=>?_
  have hb:=QaO (eq_of_beq hG)
  exact QaQ (V:=.int .u8 d.rep) QdF hs 1 rfl rfl rfl (Zz hs)
 ·refine oy [2,6] [6] fun D J w hG hs=>?_
  have hb:=QaO (eq_of_beq hG)
  exact QbW QdV QaU.1 rfl rfl (by omega) (by omega) (Zz hs)
 ·refine oy [2,7] [7] fun D J w hG hs=>?_
  have hb:=QaO (eq_of_beq hG)
  exact QaQ (V:=.int .u32 (vat v d.rep.toNat)) QaU hs 0 rfl rfl (Qgs (by omega) (by omega)) (Zz hs)
 ·refine oy [2,4,8] [4,8] fun D J w hG hs=>?_
  have hb:=QaO (eq_of_beq hG)
  exact QdK rfl rfl (Zz hs)
 ·exact oa [2,9] fun D J w hs=>Qbj (h':=decide (d.seq<=vat v d.rep.toNat)) rfl rfl rfl (Zz hs)
 ·exact oa [10] fun D J w hs=>Qad (V:=.bool ((QbH d)&&(decide (d.seq<=vat v d.rep.toNat)))) rfl (Zz hs)
 rintro J1 w6 J2 hJ hs
 replace hJ:J2=upd (mix (sq 5 11++[4]) J1 _) 4 (.bool ((QbH d)&&(decide (d.seq<=vat v d.rep.toNat)))):=hJ
 subst hJ
 refine Qaw ?_
 refine ⟨_,Qao (V:=.bool ((QbH d)&&(decide (d.seq<=vat v d.rep.toNat)))) Tryz.results40 rfl,(Zr hs ?_)⟩
 rfl
theorem Qgo (w:World) (v:Vec) (d:Dot) (hd:Qc9 d):Calls Tryz.prog 71 #[.agg (vc v).toArray,.agg (dc d).toArray] w (fun e w'=>e = .returned (.bool (Qbu v d))/\Own w no w' []):=by
 refine Qaj (n:=16) Tryz.func71 rfl Tryz.ntmps71 rfl ?_
 have hs:=Own.start w
 have ⟨⟨hd1,hd2⟩,hd3,hd4⟩:=hd
 refine Qag (Qab (Qaa (Qa5 (V:=.agg (vc v).toArray) (cs:=vc v) rfl rfl hs fun b1 w2 hs=>(Qaa (Qa5 (V:=.agg (dc d).toArray) (cs:=dc d) rfl rfl hs fun b3 w4 hs=>(Qaa (Qad (V:=.bool false) rfl (Qae (Qag (QaI HM [some 5,some 6,some 7,some 8,some 9,some 10,some 11,some 12,some 13,some 14,some 15,some 4] [] [0,1,3,7,15,7,39,103,231,511,1023,2047] [pv (.agg (dc d).toArray),pv (.bool (QbH d)),pv (.bool (QbH d)),pg ((QbH d) == true) (Pq b3 (0+1)),pg ((QbH d) == true) (.int .u32 d.seq),pg ((QbH d) == true) (Pq b3 (0+0)),pg ((QbH d) == true) (.int .u8 d.rep),pg ((QbH d) == true) (.pointer (some ⟨b1,0+d.rep.toNat,none⟩)),pg ((QbH d) == true) (.int .u32 (vat v d.rep.toNat)),pg ((QbH d) == true) (.bool (decide (d.seq<=vat v d.rep.toNat))),pv (.bool ((QbH d)&&(decide (d.seq<=vat v d.rep.toNat)))),pv (.bool ((QbH d)&&(decide (d.seq<=vat v d.rep.toNat))))] (fun _ _=>_) [11] (by kernel_rfl) hs ⟨?_,?_,?_,?_,?_,?_,?_,?_,?_,?_,?_,?_,trivial⟩ ?_))))))))))
 ·exact oa [] fun D J w hs=>QaP (cs:=dc d) QcH hs 1 rfl rfl rfl (Zz hs)
 ·exact oa [0] fun D J w hs=>Qav (vs:=[.agg (dc d).toArray]) (V:=.bool (QbH d)) QmW rfl rfl (QiV _ d) hs fun _ hs=>Zz hs
 ·exact oa [1] fun D J w hs=>Qac (V:=.bool (QbH d)) rfl (Zz hs)
 ·refine og [2] fun D J w hG hs=>?_
  have hb:=QaO (eq_of_beq hG)
  exact Qaf QbV rfl (Zz hs)
 ·refine oy [2,3] [3] fun D J w hG hs=>?_
  have hb:=QaO (eq_of_beq hG)
  exact QaQ (V:=.int .u32 d.seq) QaU hs 1 rfl rfl rfl (Zz hs)
 ·refine og [2] fun D J w hG hs=>?_
  have hb:=QaO (eq_of_beq hG)
  exact Qaf QbX rfl (Zz hs)
 ·refine oy [2,5] [5] fun D J w hG hs=>?_
  have hb:=QaO (eq_of_beq hG)
  exact QaQ (V:=.int .u8 d.rep) QdF hs 1 rfl rfl rfl (Zz hs)
 ·refine oy [2,6] [6] fun D J w hG hs=>?_
  have hb:=QaO (eq_of_beq hG)
  exact QbW QdV QaU.1 rfl rfl (by omega) (by omega) (Zz hs)
 ·refine oy [2,7] [7] fun D J w hG hs=>?_
  have hb:=QaO (eq_of_beq hG)
  exact QaQ (V:=.int .u32 (vat v d.rep.toNat)) QaU hs 0 rfl rfl (Qgs (by omega) (by omega)) (Zz hs)
 ·refine oy [2,4,8] [4,8] fun D J w hG hs=>?_
  have hb:=QaO (eq_of_beq hG)
  exact QdK rfl rfl (Zz hs)
 ·exact oa [2,9] fun D J w hs=>Qbj (h':=decide (d.seq<=vat v d.rep.toNat)) rfl rfl rfl (Zz hs)
 ·exact oa [10] fun D J w hs=>Qad (V:=.bool ((QbH d)&&(decide (d.seq<=vat v d.rep.toNat)))) rfl (Zz hs)
 rintro J1 w6 J2 hJ hs
 replace hJ:J2=upd (mix (sq 5 11++[4]) J1 _) 4 (.bool ((QbH d)&&(decide (d.seq<=vat v d.rep.toNat)))):=hJ
 subst hJ
 refine Qaw ?_
 refine ⟨_,Qao (V:=.bool ((QbH d)&&(decide (d.seq<=vat v d.rep.toNat)))) Tryz.results71 rfl,(Zr hs ?_)⟩
 rfl
theorem Qgt (w:World) (v:Vec) (n:Int) (hv:QbN v):Calls Tryz.prog 60 #[.agg (vc v).toArray,.int .i64 n] w (fun e w'=>e = .returned (.bool (QaR v n))/\Own w no w' []):=by
 refine Qaj (n:=30) Tryz.func60 rfl Tryz.ntmps60 rfl ?_
 have hs:=Own.start w
 refine Qag (Qab (Qaa (Qa5 (V:=.agg (vc v).toArray) (cs:=vc v) rfl rfl hs fun b1 w2 hs=>(Qaa (Qad (V:=.bool false) rfl (Qae (Qag (Qag (Qbv [some 7,some 8,some 9,some 10,some 11,some 12] [] [0,1,3,7,15,31] [pv (I6 n),pv (.bool (decide (n<1))),pv (.bool (decide (n<1))),pg ((decide (n<1)) == false) (I6 n),pg ((decide (n<1)) == false) (.bool (decide (16<n))),pv (.bool ((decide (n<1))||(decide (16<n))))] (fun _ _=>_) [5] (by kernel_rfl) hs ⟨?_,?_,?_,?_,?_,?_,trivial⟩ ?_)))))))))
 ·exact oa [] fun D J w hs=>Qac (V:=.int .i64 n) rfl (Zz hs)
 ·exact oa [0] fun D J w hs=>Qa2 rfl rfl (Zz hs)
 ·exact oa [1] fun D J w hs=>Qac (V:=.bool (decide (n<1))) rfl (Zz hs)
 ·exact og [2] fun D J w hG hs=>Qac (V:=.int .i64 n) rfl (Zz hs)
 ·exact oy [2,3] [3] fun D J w hG hs=>Qb2 rfl rfl (Zz hs)
 ·exact oa [2,4] fun D J w hs=>Qb4 (h':=decide (16<n)) rfl rfl rfl (Zz hs)
 rintro J1 w3 J2 hJ hs
 replace hJ:J2=upd (mix (sq 7 6) J1 _) 12 (.bool ((decide (n<1))||(decide (16<n)))):=hJ
 subst hJ
 refine Qam (t:=(decide (n<1))||(decide (16<n))) rfl (fun c4=>?_) (fun c4=>?_)
 ·
  refine Qag (Qab (Qaa (Qad (V:=.bool false) rfl (Qae (Qaw ?_)))))
  refine ⟨_,Qao (V:=.bool false) Tryz.results60 rfl,(Zr hs ?_)⟩
  exact congrArg Value.bool (Qft c4).symm
 have c4r:=QfT c4
 replace c4:=QfR c4
 replace c4:=QQ2 c4
 replace c4r:=QQ2 c4r
 refine Qaq (Qag (Qag (Qab (Qaa (QaP (cs:=vc v) Qbs hs 0 rfl rfl rfl (Qaa (Qac (V:=I6 0) rfl (Qae (Qan (QaG (fun J μ J' w'=>∃ (Jo:Env) (k:Nat),J'=upd (mix ([4,5,6]++sq 14 16) Jo J) 14 (I6 (k:Int))/\(k<=16)/\(∀ j:Nat,j<k->QgW v n j=true)/\μ=16-k/\Own w no w' [blk b1 (vc v) 24]) ?_ ?_))))))))))
 ·exact ⟨_,_,0,Qal (Qap (ds:=([4,5,6]++sq 14 16)) (Agr.refl _ _)) rfl,(by omega),(fun j hj=>absurd hj (Nat.not_lt_zero j)),rfl,hs⟩
 rintro μ J' w5 ⟨Jo,k,rfl,hk,hok,rfl,hs⟩
 have hv1:=Qg4 hv ((k:Int).toNat)
 have hkk:((k:Int)).toNat=k:=rfl
 refine Qag (Qab (Qaa (Qa2 rfl rfl (Qae (Qag (Qam (t:=decide ((k:Int)<16)) rfl (fun c6=>?_) (fun c6=>?_)))))))
 ·
  replace c6:=QQ1 c6
  refine Qaq (Qag (Qan (Qag (Qab (Qaa (Qac (V:=I6 (k:Int)) rfl (Qaa (Qjb (V:=.int .u32 (vat v k)) QdV QaU rfl rfl (by omega) (by omega) (by rw [List.getElem?_toArray];exact QhD _ _ (by omega)) ?_))))))))
  refine Qaa (Qad (V:=I6 (k:Int)) rfl (Qaa (Qad (V:=.int .u32 (vat v k)) rfl (Qae (Qag (Qbv [some 18,some 19,some 20,some 21,some 22,some 23,some 24,some 25,some 26,some 27,some 28] [] [0,1,3,7,7,31,63,127,255,511,1023] [pv (.int .u32 (vat v k)),pv (.bool (decide (1048576<vat v k))),pv (.bool (decide (1048576<vat v k))),pg ((decide (1048576<vat v k)) == false) (I6 (k:Int)),pg ((decide (1048576<vat v k)) == false) (I6 n),pg ((decide (1048576<vat v k)) == false) (.bool (decide (n<=(k:Int)))),pg ((decide (1048576<vat v k)) == false) (.bool (decide (n<=(k:Int)))),pg (((decide (1048576<vat v k)) == false)&&((decide (n<=(k:Int))) == true)) (.int .u32 (vat v k)),pg (((decide (1048576<vat v k)) == false)&&((decide (n<=(k:Int))) == true)) (.bool (decide (0<vat v k))),pg ((decide (1048576<vat v k)) == false) (.bool ((decide (n<=(k:Int)))&&(decide (0<vat v k)))),pv (.bool ((decide (1048576<vat v k))||((decide (n<=(k:Int)))&&(decide (0<vat v k)))))] (fun _ _=>_) [10] (by kernel_rfl) hs ⟨?_,?_,?_,?_,?_,?_,?_,?_,?_,?_,?_,trivial⟩ ?_))))))
  ·exact oa [] fun D J w hs=>Qac (V:=.int .u32 (vat v k)) rfl (Zz hs)
  ·exact oa [0] fun D J w hs=>Qb2 rfl rfl (Zz hs)
  ·exact oa [1] fun D J w hs=>Qac (V:=.bool (decide (1048576<vat v k))) rfl (Zz hs)
  ·exact og [2] fun D J w hG hs=>Qac (V:=.int .i64 (k:Int)) rfl (Zz hs)
  ·exact og [2] fun D J w hG hs=>Qac (V:=.int .i64 n) rfl (Zz hs)
  ·exact oy [2,3,4] [3,4] fun D J w hG hs=>QcY rfl rfl (Zz hs)
  ·exact oy [2,5] [5] fun D J w hG hs=>Qac (V:=.bool (decide (n<=(k:Int)))) rfl (Zz hs)
  ·exact og [6] fun D J w hG hs=>Qac (V:=.int .u32 (vat v k)) rfl (Zz hs)
  ·exact oy [6,7] [7] fun D J w hG hs=>Qb2 rfl rfl (Zz hs)
  ·exact oy [2,6,8] [6] fun D J w hG hs=>Qj7 (h':=decide (0<vat v k)) (G:=((decide (1048576<vat v k)) == false)) hG rfl rfl rfl (Zz hs)
  ·exact oa [2,9] fun D J w hs=>Qb4 (h':=(decide (n<=(k:Int)))&&(decide (0<vat v k))) rfl rfl rfl (Zz hs)
  rintro J1 w7 J2 hJ hs
  replace hJ:J2=upd (mix (sq 18 11) J1 _) 28 (.bool ((decide (1048576<vat v k))||((decide (n<=(k:Int)))&&(decide (0<vat v k))))):=hJ
  subst hJ
  refine Qam (t:=(decide (1048576<vat v k))||((decide (n<=(k:Int)))&&(decide (0<vat v k)))) rfl (fun c8=>?_) (fun c8=>?_)
  ·
   refine Qag (Qab (Qaa (Qad (V:=.bool false) rfl (Qae (Qaw ?_)))))
   refine ⟨_,Qao (V:=.bool false) Tryz.results60 rfl,(Zr hs ?_)⟩
   exact congrArg Value.bool (Qiq (k:=k) (by omega) (Qmm c8)).symm
  have c8r:=QfT c8
  replace c8:=QfR c8
  replace c8:=QQ2 c8
  refine Qaq (Qab (Qaa (QaF (a:=(k:Int)) (b:=1) (c:=(k:Int)+1) rfl rfl (QbA (by omega) (by omega)) (Qaa (Qac (V:=I6 ((k:Int)+1)) rfl (Qae ?_))))))
  refine ⟨_,?_,_,k+1,Qal (Qap (ds:=([4,5,6]++sq 14 16)) (by repeat (first|exact Agr.refl _ _|refine Agr.upd ?_ rfl|refine Agr.mix ?_ rfl))) rfl,(by omega),(Qiy hok (Qkg c8 c8r)),rfl,hs.take 1⟩
  omega
 replace c6:=QQ2 c6
 refine QaL (Qag (Qab (Qaa (Qad (V:=.bool true) rfl (Qae (Qaw ?_))))))
 refine ⟨_,Qao (V:=.bool true) Tryz.results60 rfl,(Zr hs ?_)⟩
 exact congrArg Value.bool ((QgT fun j hj=>hok j (by omega)).trans (by simp;omega)).symm
theorem Qm6 (w:World) (v:Vec) (n:Int) (hv:QbN v):Calls Tryz.prog 34 #[.agg (vc v).toArray,.int .i64 n] w (fun e w'=>e = .returned (.bool (QaR v n))/\Own w no w' []):=by
 refine Qaj (n:=31) Tryz.func34 rfl Tryz.ntmps34 rfl ?_
 have hs:=Own.start w
 refine Qag (Qab (Qaa (Qa5 (V:=.agg (vc v).toArray) (cs:=vc v) rfl rfl hs fun b1 w2 hs=>(Qaa (Qad (V:=.bool false) rfl (Qae (Qag (Qag (Qab (Qaa (Qad (V:=I6 0) rfl (Qae (Qan (QaG (fun J μ J' w'=>∃ (Jo:Env) (k:Nat),J'=upd (mix (sq 4 21) Jo J) 5 (I6 (k:Int))/\(k<=16)/\(∀ j:Nat,j<k->QgW v n j=true)/\μ=16-k/\Own w no w' [blk b1 (vc v) 24]) ?_ ?_))))))))))))))
 ·exact ⟨_,_,0,Qal (Qap (ds:=(sq 4 21)) (Agr.refl _ _)) rfl,(by omega),(fun j hj=>absurd hj (Nat.not_lt_zero j)),rfl,hs⟩
 rintro μ J' w3 ⟨Jo,k,rfl,hk,hok,rfl,hs⟩
 have hv1:=Qg4 hv ((k:Int).toNat)
 have hkk:((k:Int)).toNat=k:=rfl
 refine Qag (Qag (Qab (Qaa (Qac (V:=I6 (k:Int)) rfl (Qaa (Qa2 rfl rfl (Qae (Qam (t:=decide ((k:Int)<16)) rfl (fun c4=>?_) (fun c4=>?_)))))))))
 ·
  replace c4:=QQ1 c4
  refine Qaq (Qag (Qan (Qag (Qbv [some 10,some 11,some 12,some 13,some 14,some 15,some 16,some 17,some 18,some 19,some 20,some 21,some 22,some 23,some 24] [] [0,1,3,7,15,31,31,127,255,511,1023,2047,4095,8191,16383] [pv (I6 (k:Int)),pv (.pointer (some ⟨b1,0+(k:Int).toNat,none⟩)),pv (.int .u32 (vat v k)),pv (.bool (decide (1048576<vat v k))),pv (.bool (decide (1048576<vat v k))),pg ((decide (1048576<vat v k)) == false) (I6 (k:Int)),pg ((decide (1048576<vat v k)) == false) (I6 n),pg ((decide (1048576<vat v k)) == false) (.bool (decide (n<=(k:Int)))),pg ((decide (1048576<vat v k)) == false) (.bool (decide (n<=(k:Int)))),pg (((decide (1048576<vat v k)) == false)&&((decide (n<=(k:Int))) == true)) (I6 (k:Int)),pg (((decide (1048576<vat v k)) == false)&&((decide (n<=(k:Int))) == true)) (.pointer (some ⟨b1,0+(k:Int).toNat,none⟩)),pg (((decide (1048576<vat v k)) == false)&&((decide (n<=(k:Int))) == true)) (.int .u32 (vat v k)),pg (((decide (1048576<vat v k)) == false)&&((decide (n<=(k:Int))) == true)) (.bool (!decide (vat v k=0))),pg ((decide (1048576<vat v k)) == false) (.bool ((decide (n<=(k:Int)))&&(!decide (vat v k=0)))),pv (.bool ((decide (1048576<vat v k))||((decide (n<=(k:Int)))&&(!decide (vat v k=0)))))] (fun _ _=>_) [14] (by kernel_rfl) hs ⟨?_,?_,?_,?_,?_,?_,?_,?_,?_,?_,?_,?_,?_,?_,?_,trivial⟩ ?_))))
  ·exact oa [] fun D J w hs=>Qac (V:=.int .i64 (k:Int)) rfl (Zz hs)
  ·exact oa [0] fun D J w hs=>QbW QdV QaU.1 rfl rfl (by omega) (by omega) (Zz hs)
  ·exact oa [1] fun D J w hs=>QaQ (V:=.int .u32 (vat v k)) QaU hs 0 rfl rfl (Qgs (by omega) (by omega)) (Zz hs)
  ·exact oa [2] fun D J w hs=>Qb2 rfl rfl (Zz hs)
  ·exact oa [3] fun D J w hs=>Qac (V:=.bool (decide (1048576<vat v k))) rfl (Zz hs)
  ·exact og [4] fun D J w hG hs=>Qac (V:=.int .i64 (k:Int)) rfl (Zz hs)
  ·exact og [4] fun D J w hG hs=>Qac (V:=.int .i64 n) rfl (Zz hs)
  ·exact oy [4,5,6] [5,6] fun D J w hG hs=>QcY rfl rfl (Zz hs)
  ·exact oy [4,7] [7] fun D J w hG hs=>Qac (V:=.bool (decide (n<=(k:Int)))) rfl (Zz hs)
  ·exact og [8] fun D J w hG hs=>Qac (V:=.int .i64 (k:Int)) rfl (Zz hs)
  ·refine oy [8,9] [9] fun D J w hG hs=>?_
   have hgd0:=QQ2 (eq_of_beq (Qb1 (hG)))
   have hgd1:=QQ1 (eq_of_beq (QcB (hG)))
   exact QbW QdV QaU.1 rfl rfl (by omega) (by omega) (Zz hs)
  ·refine oy [8,10] [10] fun D J w hG hs=>?_
   have hgd0:=QQ2 (eq_of_beq (Qb1 (hG)))
   have hgd1:=QQ1 (eq_of_beq (QcB (hG)))
   exact QaQ (V:=.int .u32 (vat v k)) QaU hs 0 rfl rfl (Qgs (by omega) (by omega)) (Zz hs)
  ·exact oy [8,11] [11] fun D J w hG hs=>Qcq rfl rfl (Zz hs)
  ·exact oy [4,8,12] [8] fun D J w hG hs=>Qj7 (h':=!decide (vat v k=0)) (G:=((decide (1048576<vat v k)) == false)) hG rfl rfl rfl (Zz hs)
  ·exact oa [4,13] fun D J w hs=>Qb4 (h':=(decide (n<=(k:Int)))&&(!decide (vat v k=0))) rfl rfl rfl (Zz hs)
  rintro J1 w5 J2 hJ hs
  replace hJ:J2=upd (mix (sq 10 15) J1 _) 24 (.bool ((decide (1048576<vat v k))||((decide (n<=(k:Int)))&&(!decide (vat v k=0))))):=hJ
  subst hJ
  refine Qam (t:=(decide (1048576<vat v k))||((decide (n<=(k:Int)))&&(!decide (vat v k=0)))) rfl (fun c6=>?_) (fun c6=>?_)
  ·
   refine Qag (Qab (Qaa (Qad (V:=.bool false) rfl (Qae (Qaw ?_)))))
   refine ⟨_,Qao (V:=.bool false) Tryz.results34 rfl,(Zr hs ?_)⟩
   exact congrArg Value.bool (Qiq (k:=k) (by omega) (Qos hv c6)).symm
  have c6r:=QfT c6
  replace c6:=QfR c6
  replace c6:=QQ2 c6
  refine Qaq (Qab (Qaa (Qac (V:=I6 (k:Int)) rfl (Qaa (QaF (a:=(k:Int)) (b:=1) (c:=(k:Int)+1) rfl rfl (QbA (by omega) (by omega)) (Qaa (Qad (V:=I6 ((k:Int)+1)) rfl (Qae ?_))))))))
  refine ⟨_,?_,_,k+1,Qal (Qap (ds:=(sq 4 21)) (by repeat (first|exact Agr.refl _ _|refine Agr.upd ?_ rfl|refine Agr.mix ?_ rfl))) rfl,(by omega),(Qiy hok (QlM hv c6 c6r)),rfl,hs.take 1⟩
  omega
 replace c4:=QQ2 c4
 refine QaL (Qag (Qbv [some 25,some 26,some 27,some 28,some 29,some 30,some 4] [] [0,1,3,7,15,31,63] [pv (I6 n),pv (.bool (decide (1<=n))),pv (.bool (decide (1<=n))),pg ((decide (1<=n)) == true) (I6 n),pg ((decide (1<=n)) == true) (.bool (decide (n<=16))),pv (.bool ((decide (1<=n))&&(decide (n<=16)))),pv (.bool ((decide (1<=n))&&(decide (n<=16))))] (fun _ _=>_) [6] (by kernel_rfl) hs ⟨?_,?_,?_,?_,?_,?_,?_,trivial⟩ ?_))
 ·exact oa [] fun D J w hs=>Qac (V:=.int .i64 n) rfl (Zz hs)
 ·exact oa [0] fun D J w hs=>QcY rfl rfl (Zz hs)
 ·exact oa [1] fun D J w hs=>Qac (V:=.bool (decide (1<=n))) rfl (Zz hs)
 ·exact og [2] fun D J w hG hs=>Qac (V:=.int .i64 n) rfl (Zz hs)
 ·exact oy [2,3] [3] fun D J w hG hs=>QdK rfl rfl (Zz hs)
 ·exact oa [2,4] fun D J w hs=>Qbj (h':=decide (n<=16)) rfl rfl rfl (Zz hs)
 ·exact oa [5] fun D J w hs=>Qad (V:=.bool ((decide (1<=n))&&(decide (n<=16)))) rfl (Zz hs)
 rintro J1 w7 J2 hJ hs
 replace hJ:J2=upd (mix (sq 25 6++[4]) J1 _) 4 (.bool ((decide (1<=n))&&(decide (n<=16)))):=hJ
 subst hJ
 refine Qaw ?_
 refine ⟨_,Qao (V:=.bool ((decide (1<=n))&&(decide (n<=16)))) Tryz.results34 rfl,(Zr hs ?_)⟩
 exact congrArg Value.bool (QgT fun j hj=>hok j (by omega)).symm
theorem QfY (w:World) (a b:Vec):Calls Tryz.prog 29 #[.agg (vc a).toArray,.agg (vc b).toArray] w (fun e w'=>e = .returned (.bool (vle a b))/\Own w no w' []):=by
 refine Qaj (n:=17) Tryz.func29 rfl Tryz.ntmps29 rfl ?_
 have hs:=Own.start w
 refine Qag (Qab (Qaa (Qa5 (V:=.agg (vc a).toArray) (cs:=vc a) rfl rfl hs fun b1 w2 hs=>(Qaa (Qa5 (V:=.agg (vc b).toArray) (cs:=vc b) rfl rfl hs fun b3 w4 hs=>(Qaa (Qad (V:=.bool false) rfl (Qae (Qag (Qag (Qab (Qaa (Qad (V:=I6 0) rfl (Qae (Qan (QaG (fun J μ J' w'=>∃ (Jo:Env) (k:Nat),J'=upd (mix (sq 4 13) Jo J) 5 (I6 (k:Int))/\(k<=16)/\(∀ j:Nat,j<k->vat a j<=vat b j)/\μ=16-k/\Own w no w' [blk b1 (vc a) 24,blk b3 (vc b) 24]) ?_ ?_))))))))))))))))
 ·exact ⟨_,_,0,Qal (Qap (ds:=(sq 4 13)) (Agr.refl _ _)) rfl,(by omega),(fun j hj=>absurd hj (Nat.not_lt_zero j)),rfl,hs⟩
 rintro μ J' w5 ⟨Jo,k,rfl,hk,hle,rfl,hs⟩
 refine Qag (Qag (Qab (Qaa (Qac (V:=I6 (k:Int)) rfl (Qaa (Qa2 rfl rfl (Qae (Qam (t:=decide ((k:Int)<16)) rfl (fun c6=>?_) (fun c6=>?_)))))))))
 ·
  replace c6:=QQ1 c6
  refine Qaq (Qag (Qan (Qag (QaI HM [some 10,some 11,some 12,some 13,some 14,some 15,some 16] [] [0,1,3,0,8,24,63] [pv (I6 (k:Int)),pv (.pointer (some ⟨b1,0+(k:Int).toNat,none⟩)),pv (.int .u32 (vat a k)),pv (I6 (k:Int)),pv (.pointer (some ⟨b3,0+(k:Int).toNat,none⟩)),pv (.int .u32 (vat b k)),pv (.bool (decide (vat b k<vat a k)))] (fun _ _=>_) [6] (by kernel_rfl) hs ⟨?_,?_,?_,?_,?_,?_,?_,trivial⟩ ?_))))
  ·exact oa [] fun D J w hs=>Qac (V:=.int .i64 (k:Int)) rfl (Zz hs)
  ·exact oa [0] fun D J w hs=>QbW QdV QaU.1 rfl rfl (by omega) (by omega) (Zz hs)
  ·exact oa [1] fun D J w hs=>QaQ (V:=.int .u32 (vat a k)) QaU hs 0 rfl rfl (Qgs (by omega) (by omega)) (Zz hs)
  ·exact oa [] fun D J w hs=>Qac (V:=.int .i64 (k:Int)) rfl (Zz hs)
  ·exact oa [3] fun D J w hs=>QbW QdV QaU.1 rfl rfl (by omega) (by omega) (Zz hs)
  ·exact oa [4] fun D J w hs=>QaQ (V:=.int .u32 (vat b k)) QaU hs 1 rfl rfl (Qgs (by omega) (by omega)) (Zz hs)
  ·exact oa [2,5] fun D J w hs=>Qb2 rfl rfl (Zz hs)
  rintro J1 w7 J2 hJ hs
  replace hJ:J2=upd (mix (sq 10 7) J1 _) 16 (.bool (decide (vat b k<vat a k))):=hJ
  subst hJ
  refine Qam (t:=decide (vat b k<vat a k)) rfl (fun c8=>?_) (fun c8=>?_)
  ·
   replace c8:=QQ1 c8
   refine Qag (Qab (Qaa (Qad (V:=.bool false) rfl (Qae (Qaw ?_)))))
   refine ⟨_,Qao (V:=.bool false) Tryz.results29 rfl,(Zr hs ?_)⟩
   exact congrArg Value.bool (Qsq (k:=k) (by omega) c8).symm
  replace c8:=QQ2 c8
  refine Qaq (Qab (Qaa (Qac (V:=I6 (k:Int)) rfl (Qaa (QaF (a:=(k:Int)) (b:=1) (c:=(k:Int)+1) rfl rfl (QbA (by omega) (by omega)) (Qaa (Qad (V:=I6 ((k:Int)+1)) rfl (Qae ?_))))))))
  refine ⟨_,?_,_,k+1,Qal (Qap (ds:=(sq 4 13)) (by repeat (first|exact Agr.refl _ _|refine Agr.upd ?_ rfl|refine Agr.mix ?_ rfl))) rfl,(by omega),(Qob hle c8),rfl,hs.take 2⟩
  omega
 replace c6:=QQ2 c6
 refine QaL (Qag (Qab (Qaa (Qad (V:=.bool true) rfl (Qae (Qaw ?_))))))
 refine ⟨_,Qao (V:=.bool true) Tryz.results29 rfl,(Zr hs ?_)⟩
 exact congrArg Value.bool (Qgp fun j hj=>hle j (by omega)).symm
theorem QpE (w:World) (a b:Vec):Calls Tryz.prog 104 #[.agg (vc a).toArray,.agg (vc b).toArray] w (fun e w'=>e = .returned (.agg (vc (vjoin a b)).toArray)/\Own w no w' []):=by
 refine Qaj (n:=21) Tryz.func104 rfl Tryz.ntmps104 rfl ?_
 have hs:=Own.start w
 refine Qag (Qab (Qaa (Qa5 (V:=.agg (vc a).toArray) (cs:=vc a) rfl rfl hs fun b1 w2 hs=>(Qaa (Qa5 (V:=.agg (vc b).toArray) (cs:=vc b) rfl rfl hs fun b3 w4 hs=>(Qaa (QaM (cs:=vc vzero) Qtw rfl hs fun b5 w6 hs=>(Qae (Qag (Qag (Qab (Qaa (QaP (cs:=vc b) Qbs hs 1 rfl rfl rfl (Qaa (Qac (V:=I6 0) rfl (Qae (Qan (QaG (fun J μ J' w'=>∃ (Jo:Env) (k:Nat) (u:Vec),J'=upd (mix ([5,6]++sq 8 12) Jo J) 8 (I6 (k:Int))/\(k<=16)/\(u=QfE a b k)/\μ=16-k/\Own w no w' [blk b1 (vc u) 24,blk b3 (vc b) 24,blk b5 (vc vzero) 24]) ?_ ?_))))))))))))))))))
 ·exact ⟨_,_,0,a,Qal (Qap (ds:=([5,6]++sq 8 12)) (Agr.refl _ _)) rfl,(by omega),((QrT a b).symm),rfl,hs⟩
 rintro μ J' w7 ⟨Jo,k,u,rfl,hk,hu,rfl,hs⟩
 refine Qag (Qab (Qaa (Qa2 rfl rfl (Qae (Qag (Qam (t:=decide ((k:Int)<16)) rfl (fun c8=>?_) (fun c8=>?_)))))))
 ·
  replace c8:=QQ1 c8
  refine Qaq (Qag (Qan (Qag (Qab (Qaa (Qac (V:=I6 (k:Int)) rfl (Qaa (Qjb (V:=.int .u32 (vat b k)) QdV QaU rfl rfl (by omega) (by omega) (by rw [List.getElem?_toArray];exact QhD _ _ (by omega)) ?_))))))))
  refine Qaa (Qad (V:=I6 (k:Int)) rfl (Qaa (Qad (V:=.int .u32 (vat b k)) rfl (Qae (Qab (Qaa (Qac (V:=I6 (k:Int)) rfl (Qaa (Qac (V:=I6 (k:Int)) rfl (Qaa (QbW QdV QaU.1 rfl rfl (by omega) (by omega) (Qaa (QaQ (V:=.int .u32 (vat u k)) QaU hs 0 rfl rfl (Qgs (by omega) (by omega)) (Qaa (Qac (V:=.int .u32 (vat b k)) rfl (Qaa (Qo7 rfl rfl (Qaa (QbW QdV QaU.1 rfl rfl (by omega) (by omega) (Qaa (Qc0 (V:=.int .u32 (max (vat u k) (vat b k))) (cs':=vc (vset u k (max (vat u k) (vat b k)))) QaU hs 0 rfl rfl rfl rfl (QsR (by omega)) (QlC (by omega) (by omega)) fun w9 hs=>?_)))))))))))))))))))))
  replace hs:Own w no w9 [blk b1 (vc (vset u k (max (vat u k) (vat b k)))) 24,blk b3 (vc b) 24,blk b5 (vc vzero) 24]:=hs
  refine Qae (Qab (Qaa (QaF (a:=(k:Int)) (b:=1) (c:=(k:Int)+1) rfl rfl (QbA (by omega) (by omega)) (Qaa (Qac (V:=I6 ((k:Int)+1)) rfl (Qae ?_))))))
  refine ⟨_,?_,_,k+1,vset u k (max (vat u k) (vat b k)),Qal (Qap (ds:=([5,6]++sq 8 12)) (by repeat (first|exact Agr.refl _ _|refine Agr.upd ?_ rfl|refine Agr.mix ?_ rfl))) rfl,(by omega),(by subst hu;exact QkT (by omega)),rfl,hs.take 3⟩
  omega
 replace c8:=QQ2 c8
 refine QaL (Qag (Qab (Qaa (QaP (cs:=vc u) Qbs hs 0 rfl rfl rfl (Qaa (QcG (V:=.agg (vc u).toArray) (vs:=vc u) (cs':=vc u) Qbs.1 hs 2 rfl rfl rfl rfl rfl (QQ8 rfl) (QbS _) (QaA rfl) fun w10 hs=>?_))))))
 replace hs:Own w no w10 [blk b1 (vc u) 24,blk b3 (vc b) 24,blk b5 (vc u) 24]:=hs
 refine Qae (Qaw ?_)
 refine ⟨_,QdN (cs:=vc u) Tryz.results104 Qbs hs 2 rfl rfl rfl,(Zr hs ?_)⟩
 rw [hu,show k=16 by omega,Qpx]
theorem QeN (w:World) (a b:Vec):Calls Tryz.prog 61 #[.agg (vc a).toArray,.agg (vc b).toArray] w (fun e w'=>e = .returned (.bool (vle a b))/\Own w no w' []):=by
 refine Qaj (n:=10) Tryz.func61 rfl Tryz.ntmps61 rfl ?_
 have hs:=Own.start w
 refine Qag (Qab (Qaa (Qa5 (V:=.agg (vc a).toArray) (cs:=vc a) rfl rfl hs fun b1 w2 hs=>(Qaa (Qa5 (V:=.agg (vc b).toArray) (cs:=vc b) rfl rfl hs fun b3 w4 hs=>(Qaa (Qad (V:=.bool false) rfl (Qae (Qag (QaI HM [some 5,some 6,some 7,some 8,some 9,some 4] [] [0,0,3,0,15,31] [pv (.agg (vc a).toArray),pv (.agg (vc b).toArray),pv (.agg (vc (vjoin a b)).toArray),pv (.agg (vc b).toArray),pv (.bool (decide (vjoin a b=b))),pv (.bool (decide (vjoin a b=b)))] (fun _ _=>_) [5] (by kernel_rfl) hs ⟨?_,?_,?_,?_,?_,?_,trivial⟩ ?_))))))))))
 ·exact oa [] fun D J w hs=>QaP (cs:=vc a) Qbs hs 0 rfl rfl rfl (Zz hs)
 ·exact oa [] fun D J w hs=>QaP (cs:=vc b) Qbs hs 1 rfl rfl rfl (Zz hs)
 ·exact oa [0,1] fun D J w hs=>Qav (vs:=[.agg (vc a).toArray,.agg (vc b).toArray]) (V:=.agg (vc (vjoin a b)).toArray) Quv rfl rfl (QpE _ a b) hs fun _ hs=>Zz hs
 ·exact oa [] fun D J w hs=>QaP (cs:=vc b) Qbs hs 1 rfl rfl rfl (Zz hs)
 ·exact oa [2,3] fun D J w hs=>QrF (xs:=vc (vjoin a b)) (ys:=vc b) Tryz.eqGuardType24 (QuP (vjoin a b) b) rfl rfl rfl (Zz hs)
 ·exact oa [4] fun D J w hs=>Qad (V:=.bool (decide (vjoin a b=b))) rfl (Zz hs)
 rintro J1 w6 J2 hJ hs
 replace hJ:J2=upd (mix [5,6,7,8,9,4] J1 _) 4 (.bool (decide (vjoin a b=b))):=hJ
 subst hJ
 refine Qaw ?_
 refine ⟨_,Qao (V:=.bool (decide (vjoin a b=b))) Tryz.results61 rfl,(Zr hs ?_)⟩
 exact congrArg Value.bool (QqA a b)
theorem Qsc (w:World) (v:Vec) (hv:QbN v):Calls Tryz.prog 87 #[.agg (vc v).toArray] w (fun e w'=>e = .returned (.int .u64 (vsum v))/\Own w no w' []):=by
 refine Qaj (n:=16) Tryz.func87 rfl Tryz.ntmps87 rfl ?_
 have hs:=Own.start w
 refine Qag (Qab (Qaa (Qa5 (V:=.agg (vc v).toArray) (cs:=vc v) rfl rfl hs fun b1 w2 hs=>(Qaa (Qad (V:=.int .u64 0) rfl (Qae (Qag (Qab (Qaa (Qad (V:=.int .u64 0) rfl (Qae (Qag (Qag (Qab (Qaa (QaP (cs:=vc v) Qbs hs 0 rfl rfl rfl (Qaa (Qac (V:=I6 0) rfl (Qae (Qan (QaG (fun J μ J' w'=>∃ (Jo:Env) (k:Nat) (n:Int),J'=upd (upd (mix ([3,5]++sq 7 8) Jo J) 7 (I6 (k:Int))) 3 (.int .u64 n)/\(k<=16)/\(n=QfJ v k)/\(0<=n/\n<=(k:Int)*4294967296)/\μ=16-k/\Own w no w' [blk b1 (vc v) 24]) ?_ ?_)))))))))))))))))))))
 ·exact ⟨_,_,0,0,Qal (Qal (Qap (ds:=([3,5]++sq 7 8)) (Agr.refl _ _)) rfl) rfl,(by omega),rfl,(⟨by omega,by omega⟩),rfl,hs⟩
 rintro μ J' w3 ⟨Jo,k,n,rfl,hk,hn,hnb,rfl,hs⟩
 refine Qag (Qab (Qaa (Qa2 rfl rfl (Qae (Qag (Qam (t:=decide ((k:Int)<16)) rfl (fun c4=>?_) (fun c4=>?_)))))))
 ·
  replace c4:=QQ1 c4
  refine Qaq (Qag (Qan (Qag ?_)))
  have hv1:=Qg4 hv k
  refine Qab (Qaa (Qjb (V:=.int .u32 (vat v k)) QdV QaU rfl rfl (by omega) (by omega) (by rw [List.getElem?_toArray];exact QhD _ _ (by omega)) ?_))
  refine Qaa (Qad (V:=.int .u32 (vat v k)) rfl (Qae (Qab (Qaa (Qac (V:=.int .u64 n) rfl (Qaa (Qac (V:=.int .u32 (vat v k)) rfl (Qaa (Qcn QqJ Qs2 rfl (QdQ (by omega) (by omega)) (Qaa (QaF (a:=n) (b:=vat v k) (c:=n+(vat v k)) rfl rfl (QdQ (by omega) (by omega)) (Qaa (Qad (V:=.int .u64 (n+(vat v k))) rfl (Qae (Qab (Qaa (QaF (a:=(k:Int)) (b:=1) (c:=(k:Int)+1) rfl rfl (QbA (by omega) (by omega)) (Qaa (Qac (V:=I6 ((k:Int)+1)) rfl (Qae ?_))))))))))))))))))))
  refine ⟨_,?_,_,k+1,n+(vat v k),Qal (Qal (Qap (ds:=([3,5]++sq 7 8)) (by repeat (first|exact Agr.refl _ _|refine Agr.upd ?_ rfl|refine Agr.mix ?_ rfl))) rfl) rfl,(by omega),(QkE hn),(⟨by omega,by omega⟩),rfl,hs.take 1⟩
  omega
 replace c4:=QQ2 c4
 refine QaL (Qag (Qab (Qaa (Qac (V:=.int .u64 n) rfl (Qaa (Qad (V:=.int .u64 n) rfl (Qae (Qaw ?_))))))))
 refine ⟨_,Qao (V:=.int .u64 n) Tryz.results87 rfl,(Zr hs ?_)⟩
 rw [hn,show k=16 by omega,Qqk]
end Tt
end Go.Proofs
