/- A part of a proof: what functions of the program compute, and plain facts on that. -/
import Derived.Test.YtbjbjboehjdcaaaGreatCutsBetweenP2
import Derived.KernelRfl
import Derived.Test.YtbjbjboehjdcaaaGreatProg
import Derived.Shelf.SlSortCmp.Xorshift
import Derived.Laws.Bits64b
import Derived.Sort.LotD5
import Derived.Laws.BytesArg
import Derived.Sort.EncStr
import Derived.MapKept
set_option linter.unusedVariables false
set_option linter.unusedSimpArgs false
set_option maxHeartbeats 4000000
set_option maxRecDepth 100000
namespace Go.Vx
theorem Own.sel {w0 w:World} {M:Nat->Prop} {L:List Res} (h:Own w0 M w L) (is:List Nat) {L':List Res} (hn:is.Nodup) (he:(is.map fun i=>L[i]?)=L'.map some):Own w0 M w L':=by
 obtain ⟨a,b,c,d,e,S,f,g,i,j⟩:=h
 have key:∀ {k:Nat} {R:Res},L'[k]?=some R->∃ n,is[k]?=some n/\L[n]?=some R:=fun {k R} hk=>by
  have h1:(is.map fun i=>L[i]?)[k]?=(L'.map some)[k]?:=by rw [he]
  rw [List.getElem?_map,List.getElem?_map,hk] at h1
  cases hi:is[k]? with
  | none=>rw [hi] at h1;cases h1
  | some n=>rw [hi] at h1;exact ⟨n,rfl,by simpa using h1⟩
 refine ⟨a,b,c,d,e,fun k b=>∃ n,is[k]?=some n/\S n b,fun k R hk=>?_,?_,?_,?_⟩
 ·obtain ⟨n,h1,h2⟩:=key hk
  have e1:(fun b=>∃ m,is[k]?=some m/\S m b)=S n:=by
   funext b;apply propext
   constructor
   ·rintro ⟨m,h3,h4⟩;rw [h1] at h3;cases h3;exact h4
   ·exact fun h=>⟨n,h1,h⟩
  show R.holds w (fun b=>∃ m,is[k]?=some m/\S m b)
  rw [e1];exact f n R h2
 ·rintro k b ⟨n,_,h⟩;exact g n b h
 ·rintro k k' b ⟨n,h1,h2⟩ ⟨m,h3,h4⟩
  have hnm:=i n m b h2 h4
  subst hnm
  have hk:k<is.length:=by rcases Nat.lt_or_ge k is.length with q|q;exact q;rw [List.getElem?_eq_none q] at h1;cases h1
  have hk':k'<is.length:=by rcases Nat.lt_or_ge k' is.length with q|q;exact q;rw [List.getElem?_eq_none q] at h3;cases h3
  rw [List.getElem?_eq_getElem hk] at h1
  rw [List.getElem?_eq_getElem hk'] at h3
  exact (List.getElem_inj hn).1 ((Option.some.inj h1).trans (Option.some.inj h3).symm)
 ·rintro k b ⟨n,_,h⟩ hb;exact j n b h hb
theorem Seq.take {l:List Opn} (h:Seq l):∀ k,Seq (l.take k):=by
 induction h with
 | nil=>intro k;rw [List.take_nil];exact .nil
 | @snoc l o h1 h2 h3 h4 h5 h6 ih =>
  intro k
  rcases Nat.lt_or_ge l.length k with q|q
  ·rw [List.take_of_length_le (by rw [QQ7,List.length_singleton];omega)];exact .snoc h1 h2 h3 h4 h5 h6
  ·rw [List.take_append_of_le_length q];exact ih k
theorem Qhm {e:Cen}:∀ {l:List Cen},(Qkd e l).length=l.length+1
 | []=>rfl
 | x :: l=>by
  unfold Qkd;split
  ·rfl
  ·rw [List.length_cons,Qhm];rfl
theorem Qk8 (s:Sta) (o:Opn):(Qd8 s o).ents.length<=s.ents.length+1/\(Qd8 s o).ticks.length<=s.ticks.length+1:=by
 have h1:=List.length_filter_le (fun e=>!QaE o (QaG e)) s.ents
 refine ⟨?_,QhI s.ticks⟩
 unfold Qd8
 dsimp only
 split
 ·rw [Qhm];omega
 ·omega
theorem Qj4 (l:List Opn):(Qc2 l).ents.length<=l.length/\(Qc2 l).ticks.length<=l.length:=by
 refine Qbs (motive:=fun l=>(Qc2 l).ents.length<=l.length/\(Qc2 l).ticks.length<=l.length) ⟨Nat.le_refl _,Nat.le_refl _⟩ (fun l o ih=>?_) l
 rw [QdB,QQ7,List.length_singleton]
 have:=Qk8 (Qc2 l) o
 omega
theorem Qi7 {c t:Int} (h:QhX ⟨c,t⟩):∀ {l:List Lst},(∀ x∈l,QhX x)->∀ x∈Qdv c t l,QhX x
 | [],_,x,hx=>by simp [Qdv] at hx;subst hx;exact h
 | y :: l,hl,x,hx=>by
  have hy:=hl y (by simp)
  have hl':∀ x∈l,QhX x:=fun z hz=>hl z (by simp [hz])
  unfold Qdv at hx
  split at hx
  ·rcases List.mem_cons.1 hx with g|g
   ·subst g
    obtain ⟨h1,h2,h3⟩:=h
    obtain ⟨k1,k2,k3⟩:=hy
    dsimp only at h1 h2 h3
    exact ⟨h1,by show 0<=max y.tick t;omega,by show max y.tick t<_;omega⟩
   ·exact hl' x g
  ·split at hx
   ·rcases List.mem_cons.1 hx with g|g
    ·subst g;exact h
    ·exact hl x g
   ·rcases List.mem_cons.1 hx with g|g
    ·subst g;exact hy
    ·exact Qi7 h hl' x g
theorem QmQ {o:Opn} (h:Qcc o):QiU (Qlx o):=by
 obtain ⟨h1,h2,h3,h4,h5,h6,h7⟩:=h
 have:=Ql2 h7
 exact ⟨h3,h4,h5,h2,h1,by show 0<=QbH o;unfold QbH;omega,by show QbH o<_;unfold QbH;omega⟩
theorem Qnl {s:Sta} {o:Opn} (hs:Qdx s) (ho:Qcc o):Qdx (Qd8 s o):=by
 obtain ⟨h1,h2,h3⟩:=hs
 refine ⟨?_,?_,?_⟩
 ·exact Qgy h1 _ ho.1.2.1 ho.1.2.2
 ·intro e he
  unfold Qd8 at he
  dsimp only at he
  split at he
  ·rcases QeN.1 he with g|g
   ·subst g;exact QmQ ho
   ·exact h2 e (List.mem_filter.1 g).1
  ·exact h2 e (List.mem_filter.1 he).1
 ·intro x hx
  exact Qi7 ⟨ho.2.2.1,ho.2.2.2.2.2.1⟩ h3 x hx
theorem Qht:Qdx szero:=⟨QcD,(fun _ h=>by cases h),(fun _ h=>by cases h)⟩
theorem Seq.ok {l:List Opn} (h:Seq l):Qdx (Qc2 l):=by
 induction h with
 | nil=>exact Qht
 | snoc h1 h2 h3 h4 h5 h6 ih=>rw [QdB];exact Qnl ih h2
def Qjz (l:List Opn) (i j:Nat):Bool:=Qbv (gd l i).ctx (gd l j).dot&&!vle (gd l j).ctx (gd l i).ctx
def QbR (l:List Opn):Bool:=decide (l.length<=40)&&Qbc l&&((List.range l.length).all fun k=>decide (QbF (Qbq (l.take k)) (gd l k)=0))&&(List.range l.length).all fun i=>(List.range l.length).all fun j=>!Qjz l i j
theorem Qo0 {l:List Opn} (h:40<l.length):QbR l=false:=by unfold QbR;rw [QQ4 (p:=l.length<=40) (by omega)];rfl
theorem Qi9 {l:List Opn} (h:Qbc l=false):QbR l=false:=by unfold QbR;rw [h];simp
theorem QkS {l:List Opn} {k:Nat} (hk:k<l.length) (h:¬QbF (Qbq (l.take k)) (gd l k)=0):QbR l=false:=by
 rw [Bool.eq_false_iff]
 intro g
 unfold QbR at g
 simp only [Bool.and_eq_true,List.all_eq_true,List.mem_range,decide_eq_true_eq] at g
 exact h (g.1.2 k hk)
theorem Qm2 {l:List Opn} {i j:Nat} (hi:i<l.length) (hj:j<l.length) (h:Qjz l i j=true):QbR l=false:=by
 rw [Bool.eq_false_iff]
 intro g
 unfold QbR at g
 simp only [Bool.and_eq_true,List.all_eq_true,List.mem_range,decide_eq_true_eq,Bool.not_eq_true'] at g
 rw [g.2 i hi j hj] at h;cases h
theorem QpS {l:List Opn} (h1:l.length<=40) (h2:Qbc l=true) (h3:∀ k,k<l.length->QbF (Qbq (l.take k)) (gd l k)=0) (h4:∀ i,i<l.length->∀ j,j<l.length->Qjz l i j=false):QbR l=true:=by
 unfold QbR
 simp only [Bool.and_eq_true,List.all_eq_true,List.mem_range,decide_eq_true_eq,Bool.not_eq_true']
 exact ⟨⟨⟨h1,h2⟩,h3⟩,h4⟩
theorem QpF {l:List Opn} (hl:∀ o∈l,Qcc o) (h:QbR l=true):l.length<=40/\Qbc l=true/\Seq l:=by
 unfold QbR at h
 simp only [Bool.and_eq_true,List.all_eq_true,List.mem_range,decide_eq_true_eq] at h
 exact ⟨h.1.1.1,h.1.1.2,QsN hl h.1.2⟩
theorem Qlp {l:List Opn} {k:Nat} {v:Vec} (h:v=Qbq (l.take k)) (hk:k<l.length):vset v (gd l k).dot.rep.toNat (gd l k).dot.seq=Qbq (l.take (k+1)):=by rw [Qbx hk,Qda,h]
end Go.Vx
namespace Go.Proofs
open Go Go.Vx Go.RowKit
namespace Tt
theorem Qi3:El Tryz.prog 29 98 23 84:=⟨Tryz.underlying29,_,_,Tryz.type98,rfl,rfl,rfl,rfl,by decide⟩
theorem QsO:En Tryz.prog 111:=Tryz.call111
theorem QtR:En Tryz.prog 113:=Tryz.call113
theorem QuA:En Tryz.prog 114:=Tryz.call114
theorem QuB:En Tryz.prog 70:=Tryz.call70
theorem QnG:FA Tryz.prog 49 0 0:=fun b o w=>by simp [Instr.fieldAt,Instr.sureAddr,fieldPlace,Qbg]
theorem Qco:Ud Tryz.prog 29 (.slice 98):=Tryz.runUnderlying29
theorem Qdy:Ud Tryz.prog 47 (.slice 127):=Tryz.runUnderlying47
theorem QaN:Ud Tryz.prog 69 (.slice 32):=Tryz.runUnderlying69
theorem QtM:Tryz.prog.underlying 29=some (.slice 98):=Tryz.underlying29
theorem Qn9:Tryz.prog.underlying 4=some (.bool):=Tryz.underlying4
end Tt
end Go.Proofs
namespace Go.Vx
def Qql:Opn:=⟨⟨0,1⟩,1,3,4,2,5,vzero⟩
def Qof:Sta:=⟨vset vzero 0 1,[⟨3,4,2,1,⟨0,1⟩,1⟩],[⟨3,5⟩]⟩
theorem Qrh:Qcc Qql:=by
 refine ⟨⟨⟨by decide,by decide⟩,by decide,by decide⟩,⟨by decide,by decide⟩,⟨by decide,by decide⟩,⟨by decide,by decide⟩,⟨by decide,by decide⟩,⟨by decide,by decide⟩,QcD⟩
theorem QuX:QaI Qof 3 (Qav Qof)=⟨3,[(⟨4,2⟩:Line)],false,5⟩:=by
 have h1:Qav Qof=true:=by decide +kernel
 rw [h1]
 show Qln Qof 3=_
 unfold Qln
 have h2:QeX (Qes Qof 3)=[4]:=by
  have h:=Qeu (Qes Qof 3)
  refine Qhi h.1 (List.pairwise_singleton _ _) fun x=>?_
  rw [h.2];rfl
 rw [h2];rfl
end Go.Vx
namespace Go.Proofs
open Go Go.Vx Go.RowKit
namespace Tt
theorem Qpd:En Tryz.prog 33:=Tryz.call33
end Tt
end Go.Proofs
namespace Go.Vx
open Go.RowKit Go.ChangeShapes Go.WideShapes Go.ChangeAt
theorem QuT {P:Program} {t td tv:TypeId} {f0 f1 f2 f3 f4 f5 f6:Field} (ht:P.underlying t=some (.struct #[f0,f1,f2,f3,f4,f5,f6]))
  (hoff:[f0.offset,f1.offset,f2.offset,f3.offset,f4.offset,f5.offset,f6.offset]=[0,2,3,4,5,6,7])
  (hty:[f0.type,f6.type]=[td,tv])
  (hD:Qe0 P td dc Qc9) (hV:Qe0 P tv vc QbM)
  (u1:P.underlying f1.type=some (.int .u8)) (u2:P.underlying f2.type=some (.int .u16)) (u3:P.underlying f3.type=some (.int .u16)) (u4:P.underlying f4.type=some (.int .u16)) (u5:P.underlying f5.type=some (.int .u32))
  (hc:[P.cellsOf f0.type,P.cellsOf f1.type,P.cellsOf f2.type,P.cellsOf f3.type,P.cellsOf f4.type,P.cellsOf f5.type,P.cellsOf f6.type]=[2,1,1,1,1,1,16]) (hct:P.cellsOf t=23):Qe0 P t oc Qcc:=by
 intro H enc w base spare held fuel cs x h
 obtain ⟨xs,m,_,_,hl,hxl,hx⟩:=DataW.trod_struct ht h
 rw [hct] at hl
 have g0:=hx 0 f0 rfl
 have g1:=hx 1 f1 rfl
 have g2:=hx 2 f2 rfl
 have g3:=hx 3 f3 rfl
 have g4:=hx 4 f4 rfl
 have g5:=hx 5 f5 rfl
 have g6:=hx 6 f6 rfl
 have hx2:xs.length=7:=by simpa using hxl
 simp only [List.cons.injEq,and_true] at hoff hty hc
 obtain ⟨o0,o1,o2,o3,o4,o5,o6⟩:=hoff
 obtain ⟨c0,c1,c2,c3,c4,c5,c6⟩:=hc
 obtain ⟨t0,t6⟩:=hty
 rw [List.getElem?_eq_getElem (by omega)] at g0 g1 g2 g3 g4 g5 g6
 rw [o0,c0,t0] at g0
 rw [o1,c1] at g1
 rw [o2,c2] at g2
 rw [o3,c3] at g3
 rw [o4,c4] at g4
 rw [o5,c5] at g5
 rw [o6,c6,t6] at g6
 obtain ⟨d,hd,e0⟩:=hD _ _ _ _ _ _ _ _ _ g0
 obtain ⟨k,hk,e1⟩:=QiK u1 _ _ _ _ _ _ _ _ _ g1
 obtain ⟨c,hc',e2⟩:=QiK u2 _ _ _ _ _ _ _ _ _ g2
 obtain ⟨i,hi,e3⟩:=QiK u3 _ _ _ _ _ _ _ _ _ g3
 obtain ⟨q,hq,e4⟩:=QiK u4 _ _ _ _ _ _ _ _ _ g4
 obtain ⟨tk,htk,e5⟩:=QiK u5 _ _ _ _ _ _ _ _ _ g5
 obtain ⟨v,hv,e6⟩:=hV _ _ _ _ _ _ _ _ _ g6
 refine ⟨⟨d,k,c,i,q,tk,v⟩,⟨hd,Qqq hk,Qi4 hc',Qi4 hi,Qi4 hq,Qjl htk,hv⟩,?_⟩
 match cs,hl with
 | x0 :: x1 :: x2 :: x3 :: x4 :: x5 :: x6 :: R,hR =>
  have e6':R=vc v:=by
   simp only [List.drop_succ_cons,List.drop_zero] at e6
   rw [List.take_of_length_le (by simp at hR;omega)] at e6;exact e6
  simp [ic,dc] at e0 e1 e2 e3 e4 e5
  rw [e0.1,e0.2,e1,e2,e3,e4,e5,e6']
  rfl
end Go.Vx
namespace Go.Vx
open Go.RowKit Go.ChangeShapes Go.WideShapes Go.ChangeAt
def pv3 (p:Vec × Vec × Vec):List Value:=vc p.1++vc p.2.1++vc p.2.2
theorem QuU {P:Program} {t el:TypeId} (ht:P.underlying t=some (.array 3 el)) (hV:Qe0 P el vc QbM) (hc:P.cellsOf el=16) (hct:P.cellsOf t=48):Qe0 P t pv3 (fun p=>QbM p.1/\QbM p.2.1/\QbM p.2.2):=by
 intro H enc w base spare held fuel cs x h
 obtain ⟨xs,m,_,_,hl,hxl,hx⟩:=DataW.trod_array ht h
 rw [hct] at hl
 have each:∀ i,i<3->∃ a,QbM a/\(cs.drop (i*16)).take 16=vc a:=by
  intro i hi
  have h1:=hx i hi
  rw [hc,List.getElem?_eq_getElem (by omega)] at h1
  exact hV _ _ _ _ _ _ _ _ _ h1
 obtain ⟨a,ha,e0⟩:=each 0 (by omega)
 obtain ⟨b,hb,e1⟩:=each 1 (by omega)
 obtain ⟨c,hc',e2⟩:=each 2 (by omega)
 refine ⟨(a,b,c),⟨ha,hb,hc'⟩,?_⟩
 unfold pv3
 dsimp only
 rw [← e0,← e1,← e2,Nat.zero_mul,List.drop_zero,Nat.one_mul]
 have h1:cs.take 16++(cs.drop 16).take 16=cs.take 32:=by rw [show 32=16+16 by rfl,List.take_add]
 rw [h1,List.take_of_length_le (l:=cs.drop (2*16)) (by rw [List.length_drop];omega),show 2*16=32 by rfl,List.take_append_drop]
end Go.Vx
namespace Go.Vx
section
variable {A B C A':List Value} {k:Nat}
theorem Qr8 (hA:A.length=k):((A++B++C).drop 0).take k=A:=by
 rw [List.drop_zero,List.append_assoc,List.take_append_of_le_length (by omega),List.take_of_length_le (by omega)]
theorem Qre (hA:A.length=k) (hB:B.length=k):((A++B++C).drop k).take k=B:=by
 subst hA
 rw [List.append_assoc,List.drop_left,List.take_append_of_le_length (by omega),List.take_of_length_le (by omega)]
theorem Qr7 (hA:A.length=k) (hB:B.length=k) (hC:C.length=k):((A++B++C).drop (k+k)).take k=C:=by
 have e:k+k=(A++B).length:=by rw [QQ7];omega
 rw [e,List.drop_left,List.take_of_length_le (by omega)]
end
structure AnyP (s0 s1 s2 ab bc abc:Sta) (n:Nat):Prop where
 i01:Qf8 s0 s1=0
 r01:QgY s0 s1=ab
 i10:Qf8 s1 s0=0
 r10:QgY s1 s0=ab
 iab:Qf8 ab s2=0
 rab:QgY ab s2=abc
 i12:Qf8 s1 s2=0
 r12:QgY s1 s2=bc
 ibc:Qf8 s0 bc=0
 rbc:QgY s0 bc=abc
 i00:Qf8 s0 s0=0
 r00:QgY s0 s0=s0
 ok0:Qdx s0/\s0.ents.length<=n/\s0.ticks.length<=n
 ok1:Qdx s1/\s1.ents.length<=n/\s1.ticks.length<=n
 ok2:Qdx s2/\s2.ents.length<=n/\s2.ticks.length<=n
 okab:Qdx ab/\ab.ents.length<=n/\ab.ticks.length<=n
 okbc:Qdx bc/\bc.ents.length<=n/\bc.ticks.length<=n
 okabc:abc.ents.length<=n/\abc.ticks.length<=n
end Go.Vx
namespace Go.Vx
section
variable {l out:List Cen} {P:List Cen} {x:Cen} {dn:Bool} {k:Nat}
theorem QhW {α:Type} [Inhabited α] {l:List α} {k:Nat} (h:k<l.length):l.drop k=gd l k :: l.drop (k+1):=by
 rw [List.drop_eq_getElem_cons h];simp [gd,h]
end
theorem Qld (l:List Cen):(Qdj l).length=l.length:=by
 refine Qbs (motive:=fun l=>(Qdj l).length=l.length) rfl (fun l e ih=>?_) l
 rw [Qga,Qhm,ih,QQ7];rfl
end Go.Vx
namespace Go.Vx
open Go.RowKit Go.Shelf
theorem Own.drewN {w0 w:World} {M:Nat->Prop} {L:List Res} (h:Own w0 M w L) (n:Nat):Own w0 M (w.drewN n) L:=by
 obtain ⟨a,b,c,d,e,S,f,g,i,j⟩:=h
 exact ⟨a,⟨b.1,Nat.le_trans b.2 (Nat.le_add_right _ _)⟩,c,d,e,S,fun k R hk=>R.loc w _ _ (fun _ _=>rfl) (f k R hk),g,i,j⟩
theorem Qur {P:Program} {J:Ren} (L:Go.Proofs.SlLaysF0.n48 P J) (T:TypeId) (w:World) (S:Nat->Prop) (rb X:Nat) (hX:X<18446744073709551616) (hR:(blk rb [.int .u64 (X:Int)] T).holds w S) (hlt:∀ x,S x->x<w.heap.size) :
  Calls P (J.f 48) #[.pointer (some ⟨rb,0,none⟩)] w (fun e w'=>∃ _u:Unit,e = .returned (.int .u64 ((Sort.xorNextN X:Nat):Int))/\Own w S w' [blk rb [.int .u64 ((Sort.xorNextN X:Nat):Int)] T]/\True):=by
 have hs:=Own.lent hR hlt
 have hb:=hR.2
 refine (Go.Proofs.AnyF.xorshift_Next L rb 0 X hX w ?_ ?_).mono ?_
 ·rw [cell_of_row w rb 0 _ T _ hb];rfl
 ·exact frozen_of_row w rb 0 _ T hb
 rintro e w' ⟨he,rfl⟩
 refine ⟨(),he,?_,trivial⟩
 rw [setCell_eq_setRow w rb 0 _ T (0,0) _ hb]
 exact (hs.set_blk 0 rfl (cs':=[.int .u64 ((Sort.xorNextN X:Nat):Int)])).drewN 3
theorem Qt9 {P:Program} {J:Ren} (L:Go.Proofs.SlLaysF0.n47 P J) (w:World) (n:Nat) (hn:n<4611686018427387904) :
  Calls P (J.f 47) #[.int .i64 (n:Int)] w (fun e w'=>e = .returned (.int .u64 (((1 <<< Sort.bitsLen n:Nat):Nat):Int))/\Own w no w' []) :=
 (Go.Proofs.AnyF.nextPowerOfTwo L n hn w).mono fun e w' ⟨he,hw⟩=>by subst hw;exact ⟨he,Own.start _⟩
theorem Qrk {a b:Nat} (ha:a<18446744073709551616) (hb:b<18446744073709551616):bits .and .u64 (a:Int) (b:Int)=((a &&& b:Nat):Int):=bits_and_u64_nat a b ha hb
def bpS (lo len md:Nat) (s0:UInt64 × Array Int) (i0:Nat):Nat->UInt64 × Array Int
 | 0=>s0
 | q+1=>Sort.breakStep lo len md (bpS lo len md s0 i0 q) (i0+q)
def Qgc (lo len md r:Nat):Nat:=if (Sort.xorNextN r &&& (md-1)) ≥ len then (Sort.xorNextN r &&& (md-1))-len else Sort.xorNextN r &&& (md-1)
theorem Qj1 {lo len md i0 q:Nat} {s0:UInt64 × Array Int}:((bpS lo len md s0 i0 (q+1)).1.toNat=Sort.xorNextN (bpS lo len md s0 i0 q).1.toNat)/\(bpS lo len md s0 i0 (q+1)).2=Sort.swp (bpS lo len md s0 i0 q).2 (i0+q) (lo+Qgc lo len md (bpS lo len md s0 i0 q).1.toNat):=by
 constructor
 ·show (Sort.xorNext _).toNat=_
  rw [Sort.xorNext_toNat]
 show Sort.swp _ _ _=_
 unfold Qgc
 rw [← Sort.xorNext_toNat]
theorem QrR {d:Array Int} {lo hi:Nat} (h:8<=hi-lo):(bpS lo (hi-lo) (1 <<< Sort.bitsLen (hi-lo)) (UInt64.ofNat (hi-lo),d) (lo+((hi-lo)/4)*2-1) 3).2=Sort.breakPatterns d lo hi:=by
 unfold Sort.breakPatterns
 dsimp only
 rw [if_pos h]
 rfl
theorem Qt8 {n:Nat} (h:0<n):n<1 <<< Sort.bitsLen n/\1 <<< Sort.bitsLen n<=2*n:=by
 rw [Nat.one_shiftLeft];exact ⟨Sort.lt_two_pow_bitsLen n,Sort.two_pow_bitsLen_le h⟩
theorem Qob {lo len r:Nat} (h:0<len):Qgc lo len (1 <<< Sort.bitsLen len) r<len:=by
 have hm:=Qt8 h
 have:=Nat.and_le_right (n:=Sort.xorNextN r) (m:=1 <<< Sort.bitsLen len-1)
 unfold Qgc;split<;>omega
end Go.Vx
namespace Go.Vx
open Go.RowKit Go.Shelf
def Qr9 (P:Program) (f T:Nat):Prop:=∀ (w:World) (S:Nat->Prop) (rb X:Nat),X<18446744073709551616->(blk rb [.int .u64 (X:Int)] T).holds w S->(∀ x,S x->x<w.heap.size) ->
  Calls P f #[.pointer (some ⟨rb,0,none⟩)] w (fun e w'=>∃ _u:Unit,e = .returned (.int .u64 ((Sort.xorNextN X:Nat):Int))/\Own w S w' [blk rb [.int .u64 ((Sort.xorNextN X:Nat):Int)] T]/\True)
def Qsm (P:Program) (f:Nat):Prop:=∀ (w:World) (n:Nat),n<4611686018427387904->Calls P f #[.int .i64 (n:Int)] w (fun e w'=>e = .returned (.int .u64 (((1 <<< Sort.bitsLen n:Nat):Nat):Int))/\Own w no w' [])
def Qvb (P:Program) (f:Nat):Prop:=∀ (w:World) (n:Nat),n<4611686018427387904->Calls P f #[.int .u64 (n:Int)] w (fun e w'=>e = .returned (.int .i64 ((Sort.bitsLen n:Nat):Int))/\Own w no w' [])
theorem QkH {lo len md i0 N:Nat} {s0:UInt64 × Array Int} (h:s0.2.size=N):∀ q,(bpS lo len md s0 i0 q).2.size=N
 | 0=>h
 | q+1=>by rw [Qj1.2,Sort.size_swp];exact QkH h q
end Go.Vx
namespace Go.Vx
open Go.RowKit
def QgC (P:Program) (f:Nat) (k:IntKind) (E:Nat):Prop:=∀ (w:World) (S:Nat->Prop) (a:Option Addr) (c:Nat) (l:List Int),(row (.slice a l.length c) (l.map (ic k)) E 1).holds w S->(∀ x,S x->x<w.heap.size)->l.length<=2305843009213693951 ->
  Calls P f #[.slice a l.length c] w fun e w'=>e = .returned (.tuple #[])/\Own w S w' [row (.slice a l.length c) ((Qa7 l).map (ic k)) E 1]
end Go.Vx
namespace Go.Proofs
open Go Go.Vx Go.RowKit
namespace Tt
theorem Qtp:T1 Tryz.prog 211:=⟨Tryz.sizeOf211,Tryz.isAgg211⟩
theorem Quw:En Tryz.prog 134:=Tryz.call134
theorem Qm9:En Tryz.prog 160:=Tryz.call160
theorem Qtu:En Tryz.prog 162:=Tryz.call162
theorem Qub:En Tryz.prog 163:=Tryz.call163
theorem Qtf:En Tryz.prog 172:=Tryz.call172
theorem Que:En Tryz.prog 173:=Tryz.call173
theorem QtL:En Tryz.prog 174:=Tryz.call174
theorem QsI:En Tryz.prog 175:=Tryz.call175
theorem QsQ:En Tryz.prog 176:=Tryz.call176
theorem Quh:En Tryz.prog 177:=Tryz.call177
theorem Qdc:En Tryz.prog 178:=Tryz.call178
theorem QsH:En Tryz.prog 179:=Tryz.call179
theorem Qtl:En Tryz.prog 180:=Tryz.call180
theorem Qqj:En Tryz.prog 185:=Tryz.call185
theorem Qml:En Tryz.prog 186:=Tryz.call186
theorem Ql8:En Tryz.prog 187:=Tryz.call187
theorem QlG:En Tryz.prog 189:=Tryz.call189
theorem Qvu:En Tryz.prog 92:=Tryz.call92
theorem QsF:Ud Tryz.prog 211 (.int .u64):=Tryz.runUnderlying211
theorem Qs0:Zv Tryz.prog 211 (.int .u64 0):=Tryz.zeroValue211
theorem Qwh:Zv Tryz.prog 3 (.int .i64 0):=Tryz.zeroValue3
end Tt
end Go.Proofs
namespace Go.Proofs
open Go Go.Vx Go.RowKit
namespace Tt
theorem Qrm:T1 Tryz.prog 69:=⟨Tryz.sizeOf69,Tryz.isAgg69⟩
theorem Qtx:En Tryz.prog 133:=Tryz.call133
theorem QtW:En Tryz.prog 159:=Tryz.call159
theorem QvV:En Tryz.prog 44:=Tryz.call44
theorem QuV:En Tryz.prog 84:=Tryz.call84
theorem QvR:En Tryz.prog 89:=Tryz.call89
theorem Qor:KeyOk Tryz.prog 32 (Value.int .u16):=Ql5 Tryz.runUnderlying32 _
end Tt
end Go.Proofs
namespace Go.Vx
structure Pst where
 base:Sta
 ops:List Opn
 known:Vec
def Qll (kn:Vec) (l:List Opn) (i:Nat):Bool:=!Qa8 (gd l i) 16||Qbv kn (gd l i).dot||((l.take i).any fun x=>decide (x.dot=(gd l i).dot))
def QcB (p:Pst):Bool:=((List.range p.ops.length).all fun i=>!Qll p.base.known p.ops i)&&Qav p.base
def Qbh (p:Pst) (cut:Vec):Int:=if QcB p=false then 2 else if QaR cut 16=false then 13 else if vle cut p.known=false then 11 else if vle p.base.known cut=false then 12 else 0
theorem Qg4 {p:Pst} {i:Nat} (hi:i<p.ops.length) (h:Qll p.base.known p.ops i=true):QcB p=false:=by
 unfold QcB
 have:((List.range p.ops.length).all fun i=>!Qll p.base.known p.ops i)=false:=by
  rw [List.all_eq_false];exact ⟨i,List.mem_range.2 hi,by simp [h]⟩
 rw [this];rfl
theorem Qio {p:Pst} (h:∀ i,i<p.ops.length->Qll p.base.known p.ops i=false):QcB p=Qav p.base:=by
 unfold QcB
 have:((List.range p.ops.length).all fun i=>!Qll p.base.known p.ops i)=true:=by
  rw [List.all_eq_true];intro i hi;simp [h i (List.mem_range.1 hi)]
 rw [this,Bool.true_and]
def Qdq (p:Pst):Prop:=Qdx p.base/\(∀ o∈p.ops,Qcc o)/\QbM p.known
def QcF (b:Bool):Int:=if b=true then 1 else 0
def QiN (l:List Opn):List (Dot × Unit):=l.foldl (fun m e=>mput e.dot () m) []
theorem QgO (l:List Opn) (e:Opn):QiN (l++[e])=mput e.dot () (QiN l):=by unfold QiN;rw [List.foldl_append];rfl
theorem QiP (l:List Opn) (d:Dot):(mget d (QiN l)).isSome=l.any fun x=>decide (x.dot=d):=by
 refine Qbs (motive:=fun l=>(mget d (QiN l)).isSome=l.any fun x=>decide (x.dot=d)) rfl (fun l a ih=>?_) l
 rw [QgO,Qf7,ih,List.any_append]
 simp only [List.any_cons,List.any_nil,Bool.or_false]
 rw [Bool.or_comm,show decide (d=a.dot)=decide (a.dot=d) from decide_eq_decide.2 eq_comm]
theorem QkV {l:List Opn} {k:Nat} (hk:k<l.length):QiN (l.take (k+1))=mput (gd l k).dot () (QiN (l.take k)):=by rw [Qbx hk,QgO]
structure OpsC (kn:Vec) (l:List Opn):Prop where
 ok:∀ o∈l,Qcu o=true
 fr:∀ o∈l,Qbv kn o.dot=false
 nd:(l.map (·.dot)).Nodup
theorem Qt3 {kn:Vec} {l:List Opn} (h:∀ i,i<l.length->Qll kn l i=false):OpsC kn l:=by
 have h3:∀ i,i<l.length->Qcu (gd l i)=true/\Qbv kn (gd l i).dot=false/\((l.take i).any fun x=>decide (x.dot=(gd l i).dot))=false:=fun i hi=>by
  have:=h i hi
  unfold Qll at this
  rw [Bool.or_eq_false_iff,Bool.or_eq_false_iff] at this
  exact ⟨by rw [← Qca];simpa using this.1.1,this.1.2,this.2⟩
 refine ⟨fun o ho=>?_,fun o ho=>?_,?_⟩
 ·obtain ⟨i,hi,rfl⟩:=List.mem_iff_getElem.1 ho
  have:=(h3 i hi).1;simpa [gd,hi] using this
 ·obtain ⟨i,hi,rfl⟩:=List.mem_iff_getElem.1 ho
  have:=(h3 i hi).2.1;simpa [gd,hi] using this
 refine List.pairwise_iff_getElem.2 fun i j hi hj hij=>?_
 rw [QQ6] at hi hj
 rw [List.getElem_map,List.getElem_map]
 intro e
 have h4:=(h3 j hj).2.2
 rw [List.any_eq_false] at h4
 have h5:=h4 l[i] (List.mem_take_iff_getElem.2 ⟨i,by omega,rfl⟩)
 simp [gd,hj] at h5
 exact h5 e
theorem Qc4 {p:Pst} (h:QcB p=true):OpsC p.base.known p.ops/\RightC p.base:=by
 have hb:∀ i,i<p.ops.length->Qll p.base.known p.ops i=false:=fun i hi=>by
  cases e:Qll p.base.known p.ops i with
  | false=>rfl
  | true=>rw [Qg4 hi e] at h;cases h
 exact ⟨Qt3 hb,QcH.1 (by rw [← Qio hb];exact h)⟩
theorem QdX {p:Pst} {cut:Vec} (h:Qbh p cut=0):QcB p=true/\QaR cut 16=true/\vle cut p.known=true/\vle p.base.known cut=true:=by
 unfold Qbh at h
 cases h1:QcB p<;>cases h2:QaR cut 16<;>cases h3:vle cut p.known<;>cases h4:vle p.base.known cut<;>simp [h1,h2,h3,h4] at h ⊢
def Qhy (u:List Opn) (x:Cen):Bool:=!(u.any fun o=>QaE o (QaG x))
def Qb6 (b:List Cen) (u:List Opn):List Cen:=b++(u.filter QbA).map Qlx
def Qlc (b:List Cen) (u:List Opn):List Cen:=Qdj ((Qb6 b u).filter (Qhy u))
def QbT (s:List Lst) (u:List Opn):List Lst:=u.foldl (fun m o=>Qdv o.cart o.tick m) s
def Qiu (p:Pst) (cut:Vec):Sta:=⟨cut,Qlc p.base.ents (QaC p.ops cut),QbT p.base.ticks (QaC p.ops cut)⟩
def Qah (p:Pst) (cut:Vec):Sta:=if Qbh p cut=0 then Qiu p cut else szero
theorem Qb9 (s:List Lst) (u:List Opn) (o:Opn):QbT s (u++[o])=Qdv o.cart o.tick (QbT s u):=by unfold QbT;rw [List.foldl_append];rfl
theorem QcK {s:List Lst} (hs:QdG s):∀ u:List Opn,QdG (QbT s u):=by
 refine Qbs (motive:=fun t=>QdG (QbT s t)) hs fun t x ih=>?_
 rw [Qb9];exact QhL ih
theorem Qlq {s:List Lst}:∀ u:List Opn,(QbT s u).length<=s.length+u.length:=by
 refine Qbs (motive:=fun t=>(QbT s t).length<=s.length+t.length) (Nat.le_refl _) fun t x ih=>?_
 rw [Qb9,QQ7]
 have:=QhI (c:=x.cart) (t:=x.tick) (QbT s t)
 simp;omega
theorem QjC {p:Pst} (h:QcB p=true) (cut:Vec):((Qb6 p.base.ents (QaC p.ops cut)).map (·.dot)).Nodup:=by
 obtain ⟨ho,hb⟩:=Qc4 h
 unfold Qb6
 rw [List.map_append,List.nodup_append]
 refine ⟨hb.nd,?_,?_⟩
 ·rw [List.map_map]
  exact ho.nd.sublist ((List.filter_sublist.trans List.filter_sublist).map _)
 intro d hd e he hde
 subst hde
 obtain ⟨x,hx,rfl⟩:=List.mem_map.1 hd
 rw [List.map_map] at he
 obtain ⟨o,hoM,e2⟩:=List.mem_map.1 he
 have h1:=ho.fr o (Qc8 (List.mem_filter.1 hoM).1)
 have h2:=hb.ent x hx
 unfold Qjc at h2
 simp only [Bool.and_eq_true] at h2
 have h3:o.dot=x.dot:=e2
 rw [h3,h2.1.1.2] at h1
 cases h1
theorem QdE {p:Pst} (h:QcB p=true) (cut:Vec):(((Qb6 p.base.ents (QaC p.ops cut)).filter (Qhy (QaC p.ops cut))).map (·.dot)).Nodup :=
 (QjC h cut).sublist (List.filter_sublist.map _)
theorem QoS {p:Pst} (h:QcB p=true) {cut:Vec} {m:List Cen} (hm:QkG ((Qb6 p.base.ents (QaC p.ops cut)).filter (Qhy (QaC p.ops cut))) m):m=Qlc p.base.ents (QaC p.ops cut) :=
 Qrx (QdE h cut) hm
theorem QhY {p:Pst} (h:QcB p=true) (cut:Vec) (x:Cen):x∈(Qiu p cut).ents↔x∈Qb6 p.base.ents (QaC p.ops cut)/\Qhy (QaC p.ops cut) x=true:=by
 show x∈Qlc _ _↔_
 unfold Qlc
 rw [(QeM _ (QdE h cut)).2,List.mem_filter]
def tk0 (ts:List Lst):List (Int × Int):=ts.foldl (fun m x=>mput x.cart x.tick m) []
def tkM (m:List (Int × Int)) (u:List Opn):List (Int × Int):=u.foldl (fun m o=>mput o.cart (max ((mget o.cart m).getD 0) o.tick) m) m
theorem Qox {ts:List Lst} {k:Nat} (hk:k<ts.length):tk0 (ts.take (k+1))=mput (gd ts k).cart (gd ts k).tick (tk0 (ts.take k)):=by
 rw [Qbx hk];unfold tk0;rw [List.foldl_append];rfl
theorem Qhh (m:List (Int × Int)) (u:List Opn) (o:Opn):tkM m (u++[o])=mput o.cart (max ((mget o.cart (tkM m u)).getD 0) o.tick) (tkM m u):=by unfold tkM;rw [List.foldl_append];rfl
theorem QjJ {k v:Int} {m:List (Int × Int)} (h:(m.map (·.1)).Nodup):((mput k v m).map (·.1)).Nodup:=by
 rw [QcA]
 split
 ·exact h
 rename_i hn
 rw [List.nodup_append]
 exact ⟨h,by simp,fun a ha b hb e=>by simp at hb;subst hb;subst e;exact hn ha⟩
theorem Qk3 {ts:List Lst} {x:Lst} (h:∀ y∈ts,y.cart<x.cart) (c:Int):QaM (ts++[x]) c=if c=x.cart then some x.tick else QaM ts c:=by
 unfold QaM
 rw [List.find?_append]
 by_cases e:c=x.cart
 ·rw [if_pos e]
  have:(ts.find? fun y=>decide (y.cart=c))=none:=List.find?_eq_none.2 fun y hy=>by have:=h y hy;simp;omega
  rw [this];simp [e]
 rw [if_neg e]
 have:([x].find? fun y=>decide (y.cart=c))=none:=by simp;omega
 rw [this,Option.or_none]
theorem Qqe:∀ ts:List Lst,QdG ts->((tk0 ts).map (·.1)).Nodup/\(∀ c,mget c (tk0 ts)=QaM ts c)/\(tk0 ts).length<=ts.length:=by
 refine Qbs (motive:=fun ts=>QdG ts->((tk0 ts).map (·.1)).Nodup/\(∀ c,mget c (tk0 ts)=QaM ts c)/\(tk0 ts).length<=ts.length) (fun _=>⟨by simp [tk0],fun c=>rfl,Nat.le_refl _⟩) fun ts x ih hr=>?_
 obtain ⟨hr1,hr2⟩:QdG ts/\∀ y∈ts,y.cart<x.cart:=by
  unfold QdG at hr;rw [List.pairwise_append] at hr
  exact ⟨hr.1,fun y hy=>hr.2.2 y hy x (by simp)⟩
 obtain ⟨h1,h2,h3⟩:=ih hr1
 have e:tk0 (ts++[x])=mput x.cart x.tick (tk0 ts):=by unfold tk0;rw [List.foldl_append];rfl
 rw [e]
 refine ⟨QjJ h1,fun c=>?_,?_⟩
 ·rw [Qej,Qk3 hr2,h2]
 have:=Qkh (k:=x.cart) (v:=x.tick) (l:=tk0 ts);rw [QQ7,List.length_singleton];omega
theorem Qqd {s:List Lst} {m:List (Int × Int)} (hs:QdG s) (hn:(m.map (·.1)).Nodup) (hm:∀ c,mget c m=QaM s c):∀ u:List Opn,(∀ o∈u,0<=o.tick)->((tkM m u).map (·.1)).Nodup/\(∀ c,mget c (tkM m u)=QaM (QbT s u) c)/\(tkM m u).length<=m.length+u.length:=by
 refine Qbs (motive:=fun u=>(∀ o∈u,0<=o.tick)->((tkM m u).map (·.1)).Nodup/\(∀ c,mget c (tkM m u)=QaM (QbT s u) c)/\(tkM m u).length<=m.length+u.length) (fun _=>⟨hn,hm,Nat.le_refl _⟩) fun u o ih ho=>?_
 obtain ⟨h1,h2,h3⟩:=ih fun x hx=>ho x (List.mem_append_left _ hx)
 rw [Qhh,Qb9]
 refine ⟨QjJ h1,fun c=>?_,?_⟩
 ·rw [Qej,Qdd (QcK hs u),h2]
  have h0:=ho o (by simp)
  by_cases e:c=o.cart
  ·rw [if_pos e,if_pos e]
   cases QaM (QbT s u) o.cart with
   | none=>simp;omega
   | some t=>rfl
  rw [if_neg e,if_neg e,h2]
 have:=Qkh (k:=o.cart) (v:=max ((mget o.cart (tkM m u)).getD 0) o.tick) (l:=tkM m u);rw [QQ7,List.length_singleton];omega
def tkL (m:List (Int × Int)) (n:Int):Lst:=⟨n,(mget n m).getD 0⟩
theorem QnS {t:List Lst} {m:List (Int × Int)} (ht:QdG t) (hn:(m.map (·.1)).Nodup) (hm:∀ c,mget c m=QaM t c):(Qa7 (m.map (·.1))).map (tkL m)=t:=by
 have hr:QdG ((Qa7 (m.map (·.1))).map (tkL m)):=List.pairwise_map.2 (Qfy hn)
 refine QjX hr ht fun c=>?_
 by_cases e:c∈m.map (·.1)
 ·have h1:tkL m c∈(Qa7 (m.map (·.1))).map (tkL m):=List.mem_map.2 ⟨c,Qgm.2 e,rfl⟩
  have h2:=(Qei hr (tkL m c)).1 h1
  have h3:(mget c m).isSome=true:=by rw [Qcw];simpa using e
  have h4:QaM ((Qa7 (m.map (·.1))).map (tkL m)) c=some ((mget c m).getD 0):=h2
  rw [h4,← hm]
  cases h5:mget c m with
  | none=>rw [h5] at h3;cases h3
  | some v=>rfl
 have h3:(mget c m).isSome=false:=by rw [Qcw];simpa using e
 have h5:mget c m=none:=by cases h5:mget c m with|none=>rfl|some v=>rw [h5] at h3;cases h3
 rw [← hm,h5]
 unfold QaM
 rw [List.find?_eq_none.2 fun y hy=>?_]
 ·rfl
 obtain ⟨n,hn1,rfl⟩:=List.mem_map.1 hy
 have:=Qgm.1 hn1
 intro e2
 have e3:n=c:=QQ1 e2
 subst e3;exact e this
theorem Qjb {p:Pst} (h:QcB p=true) (ho:∀ o∈p.ops,Qcc o) (u:List Opn) (hu:∀ o∈u,o∈p.ops):(Qa7 ((tkM (tk0 p.base.ticks) u).map (·.1))).map (tkL (tkM (tk0 p.base.ticks) u))=QbT p.base.ticks u:=by
 obtain ⟨hc,hb⟩:=Qc4 h
 obtain ⟨h1,h2,_⟩:=Qqe _ hb.rt
 obtain ⟨g1,g2,_⟩:=Qqd hb.rt h1 h2 u fun o hm=>(ho o (hu o hm)).2.2.2.2.2.1.1
 exact QnS (QcK hb.rt u) g1 g2
end Go.Vx
namespace Go.Vx
theorem Qk7 {b:List Cen} {u:List Opn} {o:Opn} (h:QbA o=true):Qb6 b u++[Qlx o]=Qb6 b (u++[o]):=by
 unfold Qb6;rw [List.filter_append,List.map_append,List.append_assoc];simp [h]
theorem Qm6 {b:List Cen} {u:List Opn} {o:Opn} (h:QbA o=false):Qb6 b u=Qb6 b (u++[o]):=by
 unfold Qb6;rw [List.filter_append,List.map_append];simp [h]
theorem Qfe {b:List Cen} {u:List Opn} {x:Cen} (h:x∈Qb6 b u):x∈b∨∃ o∈u,QbA o=true/\x=Qlx o:=by
 unfold Qb6 at h
 rcases List.mem_append.1 h with h|h
 ·exact .inl h
 obtain ⟨o,ho,rfl⟩:=List.mem_map.1 h
 have:=List.mem_filter.1 ho
 exact .inr ⟨o,this.1,this.2,rfl⟩
theorem QkW {p:Pst} (hok:Qdq p) {u:List Opn} (hu:∀ o∈u,o∈p.ops):∀ x∈Qb6 p.base.ents u,Qc9 x.dot:=by
 intro x hx
 rcases Qfe hx with h|⟨o,ho,_,rfl⟩
 ·exact (hok.1.2.1 x h).2.2.2.2.1
 exact (hok.2.1 o (hu o ho)).1
theorem Qlt (b:List Cen) (u:List Opn):(Qb6 b u).length<=b.length+u.length:=by
 unfold Qb6;rw [QQ7,QQ6];have:=List.length_filter_le QbA u;omega
theorem QlH {p:Pst} {cut:Vec} (h:¬Qbh p cut=0):Qah p cut=szero:=if_neg h
theorem Qk1 {p:Pst} {cut:Vec} {u:List Opn} {m:List Cen} {T:List Lst} (hok:Qdq p) (hI:Qbh p cut=0) (hu:u=QaC p.ops cut) (hm:QkG ((Qb6 p.base.ents u).filter (Qhy u)) m) (hT:T=(Qa7 ((tkM (tk0 p.base.ticks) u).map (·.1))).map (tkL (tkM (tk0 p.base.ticks) u))):Qah p cut=⟨cut,m,T⟩:=by
 have hr:=(QdX hI).1
 subst hu
 have hE:=QoS hr hm
 have hT2:=Qjb hr hok.2.1 (QaC p.ops cut) fun o h=>Qc8 h
 unfold Qah;rw [if_pos hI,hE,hT,hT2];rfl
theorem QqO {p:Pst} (hok:Qdq p) (h:QcB p=true) (u:List Opn) (hu:∀ o∈u,o∈p.ops):(tkM (tk0 p.base.ticks) u).length<=p.base.ticks.length+u.length:=by
 obtain ⟨hc,hb⟩:=Qc4 h
 obtain ⟨h1,h2,h3⟩:=Qqe _ hb.rt
 obtain ⟨g1,g2,g3⟩:=Qqd hb.rt h1 h2 u fun o hm=>(hok.2.1 o (hu o hm)).2.2.2.2.2.1.1
 omega
end Go.Vx
namespace Go.Vx
theorem Qjq {p:Pst} {cut:Vec} {u:List Opn} {L m:List Cen} {T:List Lst} {tm:List (Int × Int)} (hok:Qdq p) (hI:Qbh p cut=0) (hu:u=QaC p.ops cut) (hL:L=Qb6 p.base.ents u) (hm:QkG (L.filter (Qhy u)) m) (ht:tm=tkM (tk0 p.base.ticks) u) (hT:T=(Qa7 (tm.map (·.1))).map (tkL tm)):Qah p cut=⟨cut,m,T⟩:=by
 subst hL;subst ht
 exact Qk1 hok hI hu hm hT
end Go.Vx
namespace Go.Proofs
open Go Go.Vx Go.RowKit
namespace Tt
theorem Qjg:T1 Tryz.prog 29:=⟨Tryz.sizeOf29,Tryz.isAgg29⟩
theorem QcU:TA Tryz.prog 43 35:=⟨Tryz.sizeOf43,Tryz.isAgg43⟩
theorem Qvk:En Tryz.prog 59:=Tryz.call59
theorem Qfa:FA Tryz.prog 43 0 0:=fun b o w=>by simp [Instr.fieldAt,Instr.sureAddr,fieldPlace,Qbg]
theorem Qhu:FA Tryz.prog 43 1 18:=fun b o w=>by simp [Instr.fieldAt,Instr.sureAddr,fieldPlace,Qbg]
theorem Qjx:FA Tryz.prog 43 2 19:=fun b o w=>by simp [Instr.fieldAt,Instr.sureAddr,fieldPlace,Qbg]
end Tt
end Go.Proofs
namespace Go.Vx
open Go.RowKit
abbrev Str:=List UInt8
abbrev sv (l:Str):Value:=.string ⟨l.toArray⟩
def sc (l:Str):List Value:=[sv l]
end Go.Vx
namespace Go.Vx
open Go.RowKit
abbrev Pt:=Option Addr
abbrev pt (p:Nat):Pt:=some ⟨p,0,none⟩
structure Thg where
 p:Nat
 bs:List Int
 sf:Nat
structure Chg where
 to:Str
 fr:Str
 t:Pt
structure Dk where
 room:Int
 ts:List Thg
 nm:List (Str × Pt)
 sf:List (Str × Pt)
 ch:List Chg
instance:Inhabited Thg:=⟨⟨0,[],0⟩⟩
instance:Inhabited Chg:=⟨⟨[],[],none⟩⟩
def pts (ts:List Thg):List Pt:=ts.map fun t=>pt t.p
def doC (l:List (Str × Pt)) (c:Chg):List (Str × Pt) :=
 let l1:=if c.fr=[] then l else mdel c.fr l
 match c.t with
 | none=>mdel c.to l1
 | some a=>mput c.to (some a) l1
def QgB (l:List (Str × Pt)) (cs:List Chg):List (Str × Pt):=cs.foldl doC l
def Qwg (m:Dk) (c:Chg):Dk:={ m with nm:=doC m.nm c,ch:=m.ch++[c] }
section
variable (TD TT U8 TP TC:Nat)
def thP (t:Thg) (a:Option Addr) (c:Nat):List Res:=[blk t.p [.slice a t.bs.length c,.int .i64 ((t.sf:Nat):Int)] TT,row (.slice a t.bs.length c) (t.bs.map (ic .u8)) U8 1]
def thR (t:Thg):Res:=exR fun x:Option Addr × Nat=>star (thP TT U8 t x.1 x.2)
structure DkA where
 a:Option Addr
 c:Nat
 r1:Nat
 r2:Nat
 a2:Option Addr
 c2:Nat
end
section
variable {TD TT U8 TP TC:Nat} {w w0:World} {M:Nat->Prop} {L:List Res}
theorem QoB {w:World} {S:Nat->Prop}:∀ {ts:List Thg},(star (ts.map (thR TT U8))).holds w S->(ts.map (·.p)).Nodup/\∀ t∈ts,S t.p:=by
 intro ts ⟨T,t1,t2,t3⟩
 have h1:∀ (i:Nat) t,ts[i]?=some t->T i t.p:=by
  intro i t hi
  obtain ⟨x,T2,u1,u2,u3⟩:=t1 i (thR TT U8 t) (by rw [List.getElem?_map,hi];rfl)
  have:=(u1 0 _ rfl).1
  exact (u3 _).2 ⟨0,by simp [thP],this⟩
 refine ⟨?_,fun t ht=>?_⟩
 ·unfold List.Nodup
  rw [List.pairwise_iff_getElem]
  intro i j hi hj hij he
  simp only [QQ6] at hj
  simp only [List.getElem_map] at he
  have a1:=h1 i _ (List.getElem?_eq_getElem (Nat.lt_trans hij hj))
  have a2:=h1 j _ (List.getElem?_eq_getElem hj)
  rw [he] at a1
  have:=t2 i j _ a1 a2
  omega
 obtain ⟨i,hi⟩:=List.mem_iff_getElem?.1 ht
 exact (t3 _).2 ⟨i,by have:=QaT hi;simpa using this,h1 i t hi⟩
theorem Own.things (h:Own w0 M w L) (k:Nat) {ts:List Thg} (hk:L[k]?=some (star (ts.map (thR TT U8)))):(ts.map (·.p)).Nodup:=by
 obtain ⟨S,hS,_⟩:=h.get k hk
 exact (QoB hS).1
def ThF (w:World) (ts:List Thg):Prop:=∀ t∈ts,∃ a c,Qb8 w t.p [.slice a t.bs.length c,.int .i64 ((t.sf:Nat):Int)]/\Rd w (.slice a t.bs.length c) 1 (t.bs.map (ic .u8))
theorem ThF.own' {ts:List Thg} (h:ThF w0 ts) (hs:Own w0 no w L):ThF w ts:=fun t ht=>by
 obtain ⟨a,c,h1,h2⟩:=h t ht
 exact ⟨a,c,h1.own' hs,h2.own' hs⟩
end
end Go.Vx
namespace Go.Vx
open Go.RowKit
theorem Qrv {ts:List Thg} {i:Nat} {t t':Thg} (hi:ts[i]?=some t) (hp:t'.p=t.p):pts (ts.set i t')=pts ts:=by
 unfold pts
 rw [List.map_set,hp]
 apply List.ext_getElem?
 intro j
 rw [List.getElem?_set]
 by_cases q:i=j
 ·subst q;have:=QaT hi;simp [this,List.getElem?_eq_getElem this] at hi ⊢;rw [hi]
 rw [if_neg q]
def Qv7 (m:Dk) (s:Str) (p:Nat) (bs:List Int):Dk:={ m with ts:=m.ts++[⟨p,bs,0⟩],nm:=doC m.nm ⟨s,[],pt p⟩,ch:=m.ch++[⟨s,[],pt p⟩] }
end Go.Vx
namespace Go.Vx
open Go.RowKit
section
variable {κ ν:Type} [DecidableEq κ]
theorem Qgi (k:κ) (v:ν):∀ (l:List (κ × ν)),(mput k v l).map (·.1)=if k∈l.map (·.1) then l.map (·.1) else l.map (·.1)++[k]
 | []=>by simp [mput]
 | (a,b) :: l=>by
  unfold mput
  split
  ·rename_i e;subst e;simp
  rename_i e
  simp only [List.map_cons,Qgi k v l,List.mem_cons,e,false_or]
  split<;>simp
theorem Qd9 {k:κ} {v:ν} {x:κ × ν}:∀ {l:List (κ × ν)},x∈mput k v l->x=(k,v)∨x∈l
 | [],h=>by simp [mput] at h;exact .inl h
 | (a,b) :: l,h=>by
  unfold mput at h
  split at h
  ·rcases List.mem_cons.1 h with e|e
   ·exact .inl e
   exact .inr (List.mem_cons_of_mem _ e)
  rcases List.mem_cons.1 h with e|e
  ·exact .inr (e ▸ List.mem_cons_self)
  rcases Qd9 e with e|e
  ·exact .inl e
  exact .inr (List.mem_cons_of_mem _ e)
theorem Qgl {k:κ} {v:ν}:∀ {l:List (κ × ν)},(l.map (·.2)).Nodup->v ∉ l.map (·.2)->((mput k v l).map (·.2)).Nodup
 | [],_,_=>by simp [mput]
 | (a,b) :: l,hn,hv=>by
  simp only [List.map_cons,List.nodup_cons,List.mem_cons,not_or] at hn hv
  unfold mput
  split
  ·simp only [List.map_cons,List.nodup_cons];exact ⟨hv.2,hn.2⟩
  simp only [List.map_cons,List.nodup_cons]
  refine ⟨fun h=>?_,Qgl hn.2 hv.2⟩
  obtain ⟨x,hx,he⟩:=List.mem_map.1 h
  rcases Qd9 hx with e|e
  ·subst e;exact hv.1 he
  exact hn.1 (List.mem_map.2 ⟨x,e,he⟩)
theorem Qf0 {k:κ} {v:ν} {j:κ}:∀ {l:List (κ × ν)},mget j (mput k v l)=if j=k then some v else mget j l
 | []=>by unfold mput mget;simp [mget]
 | (a,b) :: l=>by
  unfold mput
  split
  ·rename_i e;subst e
   unfold mget
   by_cases h:j=k<;>simp [h]
  rename_i e
  unfold mget
  by_cases h:j=a
  ·subst h;simp [show ¬j=k from fun e2=>e e2.symm]
  rw [if_neg h,Qf0];simp [h]
end
structure KOk (ts:List Thg) (l:List (Str × Pt)):Prop where
 keys:(l.map (·.1)).Nodup
 vals:(l.map (·.2)).Nodup
 some:∀ x∈l,x.2∈pts ts
 long:∀ x∈l,1<=x.1.length
theorem KOk.nil (ts:List Thg):KOk ts []:=⟨by simp,by simp,by simp,by simp⟩
theorem KOk.to {ts ts':List Thg} {l:List (Str × Pt)} (h:KOk ts l) (hp:∀ x∈pts ts,x∈pts ts'):KOk ts' l:=⟨h.keys,h.vals,fun x hx=>hp _ (h.some x hx),h.long⟩
theorem KOk.put {ts:List Thg} {l:List (Str × Pt)} (h:KOk ts l) {s:Str} (hs:1<=s.length) {v:Pt} (hv:v ∉ l.map (·.2)) (ht:v∈pts ts):KOk ts (mput s v l):=by
 refine ⟨?_,Qgl h.vals hv,fun x hx=>?_,fun x hx=>?_⟩
 ·rw [Qgi]
  split
  ·exact h.keys
  rename_i q
  rw [List.nodup_append]
  exact ⟨h.keys,by simp,by intro a ha b hb;simp at hb;subst hb;exact fun e=>q (e ▸ ha)⟩
 ·rcases Qd9 hx with e|e
  ·subst e;exact ht
  exact h.some x e
 rcases Qd9 hx with e|e
 ·subst e;exact hs
 exact h.long x e
structure DOk (N:Nat) (m:Dk):Prop where
 nm:m.nm=QgB m.sf m.ch
 keys:∀ k,k<=m.ch.length->KOk m.ts (QgB m.sf (m.ch.take k))
 chs:∀ k∈m.ch,k.t=none∨∃ p,k.t=pt p
 safe:∀ t∈m.ts,t.sf<=t.bs.length
 nts:m.ts.length<=N
 nch:m.ch.length<=N
 bytes:(m.ts.map (·.bs.length)).sum<=1000*N
theorem DOk.now {N:Nat} {m:Dk} (h:DOk N m):KOk m.ts m.nm:=by
 have:=h.keys m.ch.length (Nat.le_refl _)
 rw [List.take_length,← h.nm] at this
 exact this
theorem DOk.mono {N N':Nat} {m:Dk} (h:DOk N m) (hn:N<=N'):DOk N' m:=⟨h.nm,h.keys,h.chs,h.safe,by have:=h.nts;omega,by have:=h.nch;omega,by have:=h.bytes;omega⟩
theorem DOk.new (room:Int):DOk 0 ⟨room,[],[],[],[]⟩:=⟨rfl,fun k hk=>by simp [QgB];exact KOk.nil _,by simp,by simp,Nat.le_refl _,Nat.le_refl _,by simp⟩
theorem Qrr {ts:List Thg} {t:Thg} (h:t∈ts):t.bs.length<=(ts.map (·.bs.length)).sum:=by
 induction ts with
 | nil=>cases h
 | cons u ts ih =>
  simp only [List.map_cons,List.sum_cons]
  rcases List.mem_cons.1 h with e|e
  ·subst e;omega
  have:=ih e;omega
theorem DOk.len {N:Nat} {m:Dk} (h:DOk N m) {t:Thg} (ht:t∈m.ts):t.bs.length<=1000*N:=Nat.le_trans (Qrr ht) h.bytes
theorem Qkm {α:Type} {l:List α} {a:α} {k:Nat} (h:k<=l.length):(l++[a]).take k=l.take k:=by
 rw [List.take_append_of_le_length h]
theorem Qe7 (l:List (Str × Pt)) (cs:List Chg) (c:Chg):QgB l (cs++[c])=doC (QgB l cs) c:=by simp [QgB]
theorem DOk.chg {N:Nat} {m:Dk} (h:DOk N m) {c:Chg} (hc:c.t=none∨∃ p,c.t=pt p) (hk:KOk m.ts (doC m.nm c)):DOk (N+1) (Qwg m c):=by
 refine ⟨?_,fun k hkl=>?_,fun k hk1=>?_,h.safe,by have:=h.nts;show m.ts.length<=N+1;omega,by have:=h.nch;show (m.ch++[c]).length<=N+1;simp;omega,by have:=h.bytes;show (m.ts.map (·.bs.length)).sum<=1000*(N+1);omega⟩
 ·show doC m.nm c=QgB m.sf (m.ch++[c])
  rw [Qe7,← h.nm]
 ·show KOk m.ts (QgB m.sf ((m.ch++[c]).take k))
  have hkl':k<=m.ch.length+1:=by have:k<=(m.ch++[c]).length:=hkl;simpa using this
  by_cases q:k<=m.ch.length
  ·rw [Qkm q];exact h.keys k q
  have:k=(m.ch++[c]).length:=by simp;omega
  rw [this,List.take_length,Qe7,← h.nm];exact hk
 have:k∈m.ch++[c]:=hk1
 rcases List.mem_append.1 this with e|e
 ·exact h.chs k e
 simp at e;subst e;exact hc
theorem DOk.things {N:Nat} {m:Dk} {ts:List Thg} (h:DOk N m) (hp:pts ts=pts m.ts) (hs:∀ t∈ts,t.sf<=t.bs.length) (hb:(ts.map (·.bs.length)).sum<=1000*(N+1)):DOk (N+1) { m with ts:=ts }:=by
 have hl:ts.length=m.ts.length:=by have:=congrArg List.length hp;simpa [pts] using this
 exact ⟨h.nm,fun k hk=>(h.keys k hk).to (by intro x hx;show x∈pts ts;rw [hp];exact hx),h.chs,hs,by have:=h.nts;show ts.length<=N+1;omega,by have:=h.nch;show m.ch.length<=N+1;omega,hb⟩
theorem QmS {l:List (Str × Pt)} {s:Str} {p:Nat}:doC l ⟨s,[],pt p⟩=mput s (pt p) l:=by unfold doC;simp
theorem DOk.newT {N:Nat} {m:Dk} (h:DOk N m) {s:Str} {p:Nat} {bs:List Int} (hs:1<=s.length) (hp:∀ t∈m.ts,t.p≠p) (hb:bs.length<=1000):DOk (N+1) (Qv7 m s p bs):=by
 have hpts:pts (m.ts++[(⟨p,bs,0⟩:Thg)])=pts m.ts++[pt p]:=by simp [pts]
 have hno:pt p ∉ pts m.ts:=fun hx=>by
  obtain ⟨t,ht,he⟩:=List.mem_map.1 hx
  simp at he;exact hp t ht he
 have hto:∀ x∈pts m.ts,x∈pts (m.ts++[(⟨p,bs,0⟩:Thg)]):=fun x hx=>by rw [hpts];simp [hx]
 have hput:KOk (m.ts++[(⟨p,bs,0⟩:Thg)]) (doC m.nm ⟨s,[],pt p⟩):=by
  rw [QmS]
  exact (h.now.to hto).put hs (fun hx=>by obtain ⟨y,hy,he⟩:=List.mem_map.1 hx;exact hno (he ▸ h.now.some y hy)) (by rw [hpts];simp)
 refine ⟨?_,fun k hkl=>?_,fun k hk1=>?_,fun t ht=>?_,?_,?_,?_⟩
 ·show doC m.nm ⟨s,[],pt p⟩=QgB m.sf (m.ch++[(⟨s,[],pt p⟩:Chg)])
  rw [Qe7,← h.nm]
 ·show KOk (m.ts++[(⟨p,bs,0⟩:Thg)]) (QgB m.sf ((m.ch++[(⟨s,[],pt p⟩:Chg)]).take k))
  have hkl':k<=m.ch.length+1:=by have:k<=(m.ch++[(⟨s,[],pt p⟩:Chg)]).length:=hkl;simpa using this
  by_cases q:k<=m.ch.length
  ·rw [Qkm q];exact (h.keys k q).to hto
  have:k=(m.ch++[(⟨s,[],pt p⟩:Chg)]).length:=by simp;omega
  rw [this,List.take_length,Qe7,← h.nm];exact hput
 ·have:k∈m.ch++[(⟨s,[],pt p⟩:Chg)]:=hk1
  rcases List.mem_append.1 this with e|e
  ·exact h.chs k e
  rw [List.mem_singleton] at e;subst e;exact .inr ⟨p,rfl⟩
 ·have:t∈m.ts++[(⟨p,bs,0⟩:Thg)]:=ht
  rcases List.mem_append.1 this with e|e
  ·exact h.safe t e
  simp at e;subst e;simp
 ·have:=h.nts;show (m.ts++[(⟨p,bs,0⟩:Thg)]).length<=N+1;simp;omega
 ·have:=h.nch;show (m.ch++[(⟨s,[],pt p⟩:Chg)]).length<=N+1;simp;omega
 have:=h.bytes;show ((m.ts++[(⟨p,bs,0⟩:Thg)]).map (·.bs.length)).sum<=1000*(N+1);simp;omega
theorem QpD {ts:List Thg} {i:Nat} {t t':Thg} (hi:ts[i]?=some t):((ts.set i t').map (·.bs.length)).sum+t.bs.length=(ts.map (·.bs.length)).sum+t'.bs.length:=by
 induction ts generalizing i with
 | nil=>simp at hi
 | cons u ts ih =>
  cases i with
  | zero=>simp at hi;subst hi;simp;omega
  | succ i=>have:=ih (i:=i) (by simpa using hi);simp at this ⊢;omega
theorem DOk.app {N:Nat} {m:Dk} (h:DOk N m) {i:Nat} {t:Thg} (hi:m.ts[i]?=some t) {bs:List Int} (hb:bs.length<=1000):DOk (N+1) { m with ts:=m.ts.set i { t with bs:=t.bs++bs } }:=by
 refine h.things (Qrv hi rfl) (fun u hu=>?_) ?_
 ·rcases List.mem_or_eq_of_mem_set hu with e|e
  ·exact h.safe u e
  subst e;have:=h.safe t (List.mem_of_getElem? hi);simp;omega
 have:=QpD (t':={ t with bs:=t.bs++bs }) hi
 have:=h.bytes
 simp only [QQ7] at *
 omega
end Go.Vx
namespace Go.Vx
open Go.RowKit
def RdX (w:World) (v:Value) (k:Nat) (ls:List (List Value)):Prop:=Rd w v k ls∨(ls=[]/\∃ a,v = .slice (some a) 0 0)
section
variable {w w0:World} {M:Nat->Prop} {L:List Res} {v:Value} {k:Nat} {ls:List (List Value)}
theorem Rd.emp_own (h:Rd w v k []) (w':World):Rd w' v k []:=⟨h.len,h.small,h.shape,by simp,h.room⟩
theorem RdX.own (h:RdX w0 v k ls) (hs:Own w0 M w L) (hm:ls≠[]->¬M (bkS v)):RdX w v k ls:=by
 rcases h with h|h
 ·by_cases q:ls=[]
  ·subst q;exact .inl (h.emp_own w)
  exact .inl (h.own hs (hm q))
 exact .inr h
theorem RdX.own' (h:RdX w0 v k ls) (hs:Own w0 no w L):RdX w v k ls:=h.own hs (fun _ h=>h)
theorem RdX.pos (h:RdX w v k ls) (hp:ls.length≠0):Rd w v k ls:=by
 rcases h with h|h
 ·exact h
 exact absurd (by rw [h.1];rfl) hp
theorem RdX.sml {α:Type} {enc:α->List Value} {l:List α} (h:RdX w v k (l.map enc)):l.length<=9223372036854775807:=by
 rcases h with h|⟨h,_⟩
 ·exact h.sml
 have:l=[]:=by simpa using h
 subst this;simp
theorem RdX.old (h:RdX w v k ls) (hk:0<k) (hp:ls≠[]):bkS v<w.heap.size:=by
 have h1:=h.pos (by intro e;exact hp (List.eq_nil_of_length_eq_zero e))
 rcases h1.shape with ⟨_,e⟩|⟨b,o,c,rfl⟩
 ·exact absurd e hp
 cases ls with
 | nil=>exact absurd rfl hp
 | cons l ls =>
  have hl:=h1.len l (by simp)
  have h2:=h1.cell 0 0 l (l[0]'(by omega)) (by simp) (List.getElem?_eq_getElem _)
  exact World.block_lt_of_cell? w ⟨b,o+0*k+0,none⟩ h2
end
structure Dact where
 kind:Int
 nm:Str
 ot:Str
 ba:Option Addr
 bc:Nat
 bs:List Int
 chg:Int
 ca:Option Addr
 cc:Nat
 cuts:List Int
 num:Int
instance:Inhabited Dact:=⟨⟨0,[],[],none,0,[],0,none,0,[],0⟩⟩
structure ActOk (w:World) (x:Dact):Prop where
 kind:0<=x.kind/\x.kind<256
 rb:RdX w (.slice x.ba x.bs.length x.bc) 1 (x.bs.map (ic .u8))
 bs:∀ y∈x.bs,0<=y/\y<256
 chg:0<=x.chg/\x.chg<256
 rc:RdX w (.slice x.ca x.cuts.length x.cc) 1 (x.cuts.map (ic .u8))
 cuts:∀ y∈x.cuts,0<=y/\y<256
 num:-9223372036854775808<=x.num/\x.num<=9223372036854775807
theorem ActOk.own' {w0 w:World} {L:List Res} {x:Dact} (h:ActOk w0 x) (hs:Own w0 no w L):ActOk w x:=⟨h.kind,h.rb.own' hs,h.bs,h.chg,h.rc.own' hs,h.cuts,h.num⟩
theorem ActOk.ownS {w0 w:World} {M:Nat->Prop} {L:List Res} {x:Dact} (h:ActOk w0 x) (hs:Own w0 M w L) (hb:x.bs≠[]->¬M (bkS (.slice x.ba x.bs.length x.bc))) (hc:x.cuts≠[]->¬M (bkS (.slice x.ca x.cuts.length x.cc))):ActOk w x :=
 ⟨h.kind,h.rb.own hs (fun q=>hb (by intro e;exact q (by rw [e];rfl))),h.bs,h.chg,h.rc.own hs (fun q=>hc (by intro e;exact q (by rw [e];rfl))),h.cuts,h.num⟩
end Go.Vx
namespace Go.Vx
open Go.RowKit
def Quu:List Value:=[.int .i64 0,.slice none 0 0,.map none,.map none,.slice none 0 0,.bool false,.int .i64 0]
def Nob (w:World) (v:Value):Prop:=v = .pointer none∨∃ b,v = .pointer (some ⟨b,0,none⟩)/\Qb8 w b Quu
theorem Nob.own' {w0 w:World} {L:List Res} {v:Value} (h:Nob w0 v) (hs:Own w0 no w L):Nob w v:=by
 rcases h with h|⟨b,h,hc⟩
 ·exact .inl h
 exact .inr ⟨b,h,hc.own' hs⟩
structure Qs (N:Nat) (s:Str) (p:Nat) (bs:List Int) (sf:Nat) (room:Int) (m:Dk):Prop where
 ok:DOk N m
 get:mget s m.nm=some (pt p)
 at_:∃ i:Nat,m.ts[i]?=some ⟨p,bs,sf⟩
 room:m.room=room
structure Qt (N:Nat) (s:Str) (p:Nat) (bs:List Int) (sf:Nat) (room:Int) (m:Dk):Prop where
 q:Qs N s p bs sf room m
 safe:mget s m.sf=some (pt p)
 ch:∀ k∈m.ch,k.fr=[]/\k.to≠s
theorem Qs.i {N:Nat} {s:Str} {p:Nat} {bs:List Int} {sf:Nat} {room:Int} {m:Dk} (h:Qs N s p bs sf room m):∃ i:Nat,m.ts[i]?=some ⟨p,bs,sf⟩:=h.at_
theorem Qt.app {N:Nat} {s:Str} {p:Nat} {bs cs:List Int} {sf:Nat} {room:Int} {m:Dk} (h:Qt N s p bs sf room m) {i:Nat} (hi:m.ts[i]?=some ⟨p,bs,sf⟩) (hc:cs.length<=1000):Qt (N+1) s p (bs++cs) sf room { m with ts:=m.ts.set i ⟨p,bs++cs,sf⟩ } :=
 ⟨⟨h.q.ok.app hi hc,h.q.get,⟨i,by show (m.ts.set i _)[i]?=_;rw [List.getElem?_set_self (QaT hi)]⟩,h.q.room⟩,h.safe,h.ch⟩
theorem Qt.new {N:Nat} {s s2:Str} {p p2:Nat} {bs cs:List Int} {sf:Nat} {room:Int} {m:Dk} (h:Qt N s p bs sf room m) (hs:1<=s2.length) (hne:s2≠s) (hp:∀ t∈m.ts,t.p≠p2) (hc:cs.length<=1000):Qt (N+1) s p bs sf room (Qv7 m s2 p2 cs):=by
 obtain ⟨i,hi⟩:=h.q.at_
 refine ⟨⟨h.q.ok.newT hs hp hc,?_,⟨i,?_⟩,h.q.room⟩,h.safe,fun k hk=>?_⟩
 ·show mget s (doC m.nm ⟨s2,[],pt p2⟩)=_
  rw [QmS,Qf0,if_neg (fun e=>hne e.symm)];exact h.q.get
 ·show (m.ts++[_])[i]?=_
  rw [List.getElem?_append_left (QaT hi)];exact hi
 have:k∈m.ch++[(⟨s2,[],pt p2⟩:Chg)]:=hk
 rcases List.mem_append.1 this with e|e
 ·exact h.ch k e
 rw [List.mem_singleton] at e;subst e;exact ⟨rfl,hne⟩
end Go.Vx
namespace Go.Vx
open Go.RowKit
def Kept (w:World) (S:Nat->Prop) (R:Res):Prop:=∃ T,R.holds w T/\∀ b,S b->¬T b
section
variable {w w0 w1:World} {S M:Nat->Prop} {L L1:List Res}
theorem Rd.ownE {v:Value} {k:Nat} {ls:List (List Value)} (h:Rd w0 v k ls) (hs:Own w0 M w L) (hm:ls≠[]->¬M (bkS v)):Rd w v k ls:=by
 by_cases q:ls=[]
 ·subst q;exact h.emp_own w
 exact h.own hs (hm q)
theorem Kept.cells {b T:Nat} {cs:List Value} (h:Kept w S (blk b cs T)) (hs:Own w S w1 L1):Qb8 w1 b cs:=by
 obtain ⟨T',hk,hd⟩:=h
 have hb:¬S b:=fun hS=>hd b hS hk.1
 have h0:Qb8 w b cs:=fun j u hj=>by
  rw [cell_of_row w b j _ T _ hk.2];simpa using hj
 exact h0.own hs hb
theorem Kept.rd {v:Value} {ls:List (List Value)} {E k:Nat} (h:Kept w S (row v ls E k)) (hs:Own w S w1 L1):Rd w1 v k ls:=by
 obtain ⟨T',hk,hd⟩:=h
 refine (Rd.of_row hk).ownE hs fun hne hS=>?_
 obtain ⟨_,hown,hT⟩:=hk
 rcases hown.2 with ⟨hv,hn⟩|⟨g,cap,cur,hv,_⟩
 ·exact hne (List.eq_nil_of_length_eq_zero (by simpa using hn))
 subst hv;exact hd g hS (hT g rfl)
end
section
variable {P:Program} {ty:TypeId} {e:Operand->Value} {w:World} {K:Value->World->Prop} {w0:World} {M:Nat->Prop} {L:List Res}
theorem Qi2 {α:Type} {f:FuncId} {xs:List Operand} {vs:List Value} {ats:Array TypeId} {V:α->Value} {R:Res} {R':α->Res} {Lo:α->List Res} {F:α->World->Prop} (hf:En P f) (hef:e (.func f) = .func (.func f) #[] #[]) (hv:xs.map e=vs)
  (hs:Own w0 M w L) (i:Nat) (hi:L[i]?=some R)
  (hc:∀ S,R.holds w S->(∀ b,S b->b<w.heap.size)->(∀ j,j≠i->∀ Rj,L[j]?=some Rj->Kept w S Rj)->Calls P f vs.toArray w fun r w'=>∃ x,r = .returned (V x)/\Own w S w' (R' x :: Lo x)/\F x w') (h:∀ x w',Own w0 M w' (L.set i (R' x)++Lo x)->F x w'->K (V x) w') :
  opW P (.call { callee:=.value (.func f),args:=xs.toArray,argTypes:=ats }) ty e w K:=by
 obtain ⟨S,hR,hlt,_,hd,hback⟩:=hs.lend3 i hi
 exact QeA hf hef (by rw [List.map_toArray,hv]) ((hc S hR hlt hd).mono fun r w' ⟨x,hr,ho,hF⟩=>⟨V x,hr,h x w' (hback w' _ _ ho) hF⟩)
end
theorem Qrf {α:Type} {p:α->Bool} {l:List α}:decide (0<=QeE p l)=l.any p:=by
 unfold QeE
 cases l.any p with
 | true=>rw [if_pos rfl];exact QQ3 (by omega)
 | false=>rw [if_neg (by decide)];rfl
end Go.Vx
namespace Go.Proofs
open Go Go.Vx Go.RowKit
namespace Tt
theorem QtU:T1 Tryz.prog 100:=⟨Tryz.sizeOf100,Tryz.isAgg100⟩
theorem QuG:En Tryz.prog 148:=Tryz.call148
theorem Qtr:En Tryz.prog 17:=Tryz.call17
theorem QvM:En Tryz.prog 35:=Tryz.call35
theorem Qu8:En Tryz.prog 43:=Tryz.call43
theorem QvY:En Tryz.prog 45:=Tryz.call45
theorem QvC:En Tryz.prog 47:=Tryz.call47
theorem Qvt:En Tryz.prog 48:=Tryz.call48
theorem Qvd:En Tryz.prog 50:=Tryz.call50
theorem QvU:En Tryz.prog 96:=Tryz.call96
theorem Qid:Ud Tryz.prog 100 (.map 32 22):=Tryz.runUnderlying100
theorem QtT:Zv Tryz.prog 22 (.int .u32 0):=Tryz.zeroValue22
theorem Qu4:Zv Tryz.prog 29 (.slice none 0 0):=Tryz.zeroValue29
end Tt
end Go.Proofs
namespace Go.Vx
theorem Qh6 {a b:Vec} {d:Dot} (h:vle a b=true) (ha:Qbv a d=true):Qbv b d=true:=by
 unfold Qbv at *
 simp only [Bool.and_eq_true,decide_eq_true_eq] at *
 exact ⟨ha.1,by have:=Qn1 h d.rep.toNat;omega⟩
theorem QmB {s:List Lst} (hs:∀ x∈s,QhX x):∀ u:List Opn,(∀ o∈u,Qcc o)->∀ x∈QbT s u,QhX x:=by
 refine Qbs (motive:=fun u=>(∀ o∈u,Qcc o)->∀ x∈QbT s u,QhX x) (fun _=>hs) fun u o ih ho=>?_
 rw [Qb9]
 have:=ho o (by simp)
 exact Qi7 ⟨this.2.2.1,this.2.2.2.2.2.1⟩ (ih fun x hx=>ho x (List.mem_append_left _ hx))
theorem Qny {s:List Lst} {B:Int} (hr:QdG s) (hs:∀ x∈s,x.tick<=B):∀ u:List Opn,(∀ o∈u,o.tick<=B)->∀ c t,QaM (QbT s u) c=some t->t<=B:=by
 refine Qbs (motive:=fun u=>(∀ o∈u,o.tick<=B)->∀ c t,QaM (QbT s u) c=some t->t<=B) (fun _ c t h=>hs ⟨c,t⟩ ((Qei hr ⟨c,t⟩).2 h)) fun u o ih ho c t h=>?_
 rw [Qb9,Qdd (QcK hr u)] at h
 have ih2:=ih fun x hx=>ho x (List.mem_append_left _ hx)
 have h0:=ho o (by simp)
 split at h
 ·cases h2:QaM (QbT s u) o.cart with
  | none=>rw [h2] at h;cases h;exact h0
  | some v =>
   rw [h2] at h
   have h3:max v o.tick=t:=Option.some.inj h
   have:=ih2 _ _ h2;omega
 exact ih2 c t h
theorem QkZ {s:List Lst} (hr:QdG s) {c:Int} (h0:(QaM s c).isSome=true):∀ u:List Opn,(QaM (QbT s u) c).isSome=true:=by
 refine Qbs (motive:=fun u=>(QaM (QbT s u) c).isSome=true) h0 fun u o ih=>?_
 rw [Qb9,Qdd (QcK hr u)]
 split
 ·rfl
 exact ih
theorem Qnm {s:List Lst} (hr:QdG s):∀ u:List Opn,∀ o∈u,(QaM (QbT s u) o.cart).isSome=true:=by
 refine Qbs (motive:=fun u=>∀ o∈u,(QaM (QbT s u) o.cart).isSome=true) (fun o h=>by cases h) fun u x ih o ho=>?_
 rw [Qb9,Qdd (QcK hr u)]
 split
 ·rfl
 rename_i hne
 rcases List.mem_append.1 ho with h|h
 ·exact ih o h
 simp at h;subst h;exact absurd rfl hne
theorem QmI {p:Pst} {cut:Vec} (hr:QcB p=true) (hok:Qdq p) (hc:QbM cut):Qdx (Qiu p cut):=by
 refine ⟨hc,fun e he=>?_,fun x hx=>?_⟩
 ·rcases Qfe ((QhY hr cut e).1 he).1 with h|⟨o,ho,_,rfl⟩
  ·exact hok.1.2.1 e h
  exact QmQ (hok.2.1 o (Qc8 ho))
 exact QmB hok.1.2.2 _ (fun o ho=>hok.2.1 o (Qc8 ho)) x hx
theorem QeJ {p:Pst} {cut:Vec} (hok:Qdq p) (hc:QbM cut):Qdx (Qah p cut):=by
 unfold Qah;split
 ·rename_i h;exact QmI (QdX h).1 hok hc
 exact Qht
theorem QdK (p:Pst) (cut:Vec):(Qah p cut).ents.length<=p.base.ents.length+p.ops.length/\(Qah p cut).ticks.length<=p.base.ticks.length+p.ops.length:=by
 have h1:=QeP p.ops cut
 unfold Qah;split
 ·refine ⟨?_,?_⟩
  ·show (Qlc _ _).length<=_
   unfold Qlc
   rw [Qld]
   have h2:=List.length_filter_le (Qhy (QaC p.ops cut)) (Qb6 p.base.ents (QaC p.ops cut))
   have h3:=Qlt p.base.ents (QaC p.ops cut)
   omega
  show (QbT _ _).length<=_
  have:=Qlq (s:=p.base.ticks) (QaC p.ops cut)
  omega
 exact ⟨Nat.zero_le _,Nat.zero_le _⟩
theorem Qlr {o:Opn} (h:Qcu o=true) (hl:QbA o=true):QcT (Qlx o)=true:=by
 unfold Qcu at h
 simp only [Bool.and_eq_true] at h
 have hkk:=h.2
 unfold Qb7 at hkk
 unfold QcT Qlx
 rcases QiJ.1 hl with g|g|g
 ·simp [g] at hkk ⊢;exact hkk
 ·simp [g]
 simp [g] at hkk ⊢;exact hkk
theorem QmT {α β:Type} {f:α->β} {l:List α} (h:(l.map f).Nodup):l.Nodup:=by
 unfold List.Nodup at h ⊢
 rw [List.pairwise_map] at h
 exact h.imp fun {a b} hab e=>hab (by rw [e])
theorem QiX {p:Pst} {cut:Vec} (hok:Qdq p) (hI:Qbh p cut=0):RightC (Qiu p cut):=by
 obtain ⟨hr,hcut,_,hle⟩:=QdX hI
 obtain ⟨hc,hb⟩:=Qc4 hr
 have hu:∀ o∈QaC p.ops cut,o∈p.ops/\Qbv cut o.dot=true:=fun o h=>List.mem_filter.1 h
 have hT:=QcK hb.rt (QaC p.ops cut)
 refine ⟨hcut,hT,fun x hx=>?_,?_,fun e he=>?_,?_⟩
 ·refine Qny hb.rt hb.tick (QaC p.ops cut) (fun o ho=>?_) x.cart x.tick ((Qei hT x).1 hx)
  have:=hc.ok o (hu o ho).1
  unfold Qcu at this
  simp only [Bool.and_eq_true,decide_eq_true_eq] at this
  exact this.1.2
 ·exact (QeM _ (QdE hr cut)).1
 ·rcases Qfe ((QhY hr cut e).1 he).1 with h|⟨o,ho,hl,rfl⟩
  ·have h2:=hb.ent e h
   unfold Qjc at h2 ⊢
   simp only [Bool.and_eq_true,decide_eq_true_eq] at h2 ⊢
   exact ⟨⟨⟨⟨QkZ hb.rt h2.1.1.1.1 _,h2.1.1.1.2⟩,Qh6 hle h2.1.1.2⟩,h2.1.2⟩,h2.2⟩
  have hoo:=hu o ho
  have hrt:=hc.ok o hoo.1
  have hcn:=Qqo (hok.2.1 o hoo.1) hrt
  unfold Qjc
  simp only [Bool.and_eq_true,decide_eq_true_eq]
  exact ⟨⟨⟨⟨Qnm hb.rt _ o ho,Qlr hrt hl⟩,hoo.2⟩,hcn.1⟩,hcn.2⟩
 have hp:=QeM _ (QdE hr cut)
 have hn:=QdE hr cut
 have hnl:((Qb6 p.base.ents (QaC p.ops cut)).filter (Qhy (QaC p.ops cut))).Nodup:=QmT hn
 have hperm:(Qiu p cut).ents.Perm ((Qb6 p.base.ents (QaC p.ops cut)).filter (Qhy (QaC p.ops cut))):=by
  refine (List.perm_ext_iff_of_nodup ?_ hnl).2 hp.2
  exact hp.1.imp fun {a b} hab e=>by subst e;rw [QbW] at hab;cases hab
 exact (hperm.map _).nodup_iff.2 hn
theorem Qfu {p:Pst} {cut:Vec} (hok:Qdq p) (hI:Qbh p cut=0):Qav (Qah p cut)=true:=by
 unfold Qah;rw [if_pos hI];exact QcH.2 (QiX hok hI)
def QqJ:Vw:=⟨0,[],false,0⟩
def QaO (p:Pst) (cut:Vec) (n:Int):Vw:=QaI (Qah p cut) n (Qav (Qah p cut))
def Qas (p:Pst) (cut:Vec) (n:Int):Vw:=if Qbh p cut=0 then QaO p cut n else QqJ
theorem Qo6 {p:Pst} {cut:Vec} {n:Int} (h:¬Qbh p cut=0):Qas p cut n=QqJ:=if_neg h
theorem QdA {p:Pst} {cut:Vec} {n:Int} (h:Qbh p cut=0):Qas p cut n=QaO p cut n:=if_pos h
end Go.Vx
namespace Go.Proofs
open Go Go.Vx Go.RowKit
namespace Tt
theorem QqV:Bt Tryz.prog 43 [(0,18),(18,1),(19,16)] (((vc vzero)++[(.slice none 0 0:Value),(.slice none 0 0:Value) ])++[(.slice none 0 0:Value) ]++(vc vzero)):=Qci Tryz.type43 rfl rfl Tryz.underlying43 (by kernel_rfl)
theorem QnE:En Tryz.prog 12:=Tryz.call12
theorem QoI:Zv Tryz.prog 43 (.agg (((vc vzero)++[(.slice none 0 0:Value),(.slice none 0 0:Value) ])++[(.slice none 0 0:Value) ]++(vc vzero)).toArray):=Tryz.zeroValue43
end Tt
end Go.Proofs
namespace Go.Vx
open Go.RowKit
structure Dif where
 cart:Int
 item:Int
 mark:Bool
 was:Int
 nw:Int
deriving DecidableEq
instance:Inhabited Dif:=⟨⟨0,0,false,0,0⟩⟩
def dfc (x:Dif):List Value:=[.int .u16 x.cart,.int .u16 x.item,.bool x.mark,.int .u32 x.was,.int .u32 x.nw]
theorem Qhg (x:Dif):∀ y∈dfc x,y.oneCell'=true:=by
 intro y hy;simp only [dfc,List.mem_cons,List.not_mem_nil,or_false] at hy;rcases hy with h|h|h|h|h<;>subst h<;>rfl
theorem QqP (a b:Dif):(decide (a.cart=b.cart)&&(decide (a.item=b.item)&&((a.mark == b.mark)&&(decide (a.was=b.was)&&(decide (a.nw=b.nw)&&true)))))=decide (a=b):=by
 cases a;cases b;simp
 rw [Bool.eq_iff_iff];simp
def QfD (l:List Line):Prop:=l.Pairwise fun a b=>a.item<b.item
def qL (l:List Line) (n:Int):Int:=((l.find? fun x=>decide (x.item=n)).map (·.qty)).getD 0
def Qhc (c:Int) (a b:List Line) (n:Int):List Dif:=if qL a n=qL b n then [] else [⟨c,n,false,qL a n,qL b n⟩]
def QgG (a b:Vw):List Dif:=if a.out=b.out then [] else [⟨b.cart,0,true,QcF a.out,QcF b.out⟩]
def unI (a b:List Line):List Int:=QeX ((a++b).map (·.item))
def QcX (a b:Vw):List Dif:=(unI a.lines b.lines).flatMap (Qhc b.cart a.lines b.lines)++QgG a b
theorem Qq9 {l:List Line} (h:QfD l) {x:Line} (hx:x∈l):qL l x.item=x.qty:=by
 unfold qL
 induction l with
 | nil=>cases hx
 | cons y l ih =>
  rw [List.find?_cons]
  rcases List.mem_cons.1 hx with e|e
  ·subst e;simp
  have h1:=List.pairwise_cons.1 h
  have h2:=h1.1 x e
  rw [QQ4 (by omega)]
  exact ih h1.2 e
theorem QiW {l:List Line} {n:Int} (h:∀ x∈l,x.item≠n):qL l n=0:=by
 unfold qL
 rw [List.find?_eq_none.2 fun x hx=>by simpa using h x hx];rfl
structure DifI (a b R1 R2:List Line) (I:List Int):Prop where
 ex:∃ D1 D2,a=D1++R1/\b=D2++R2/\(∀ i,i∈I↔i∈(D1++D2).map (·.item))
 lt:∀ i∈I,∀ x,x∈R1∨x∈R2->i<x.item
 asc:I.Pairwise (· < ·)
theorem Qlm (a b:List Line):DifI a b a b []:=⟨⟨[],[],rfl,rfl,by simp⟩,by simp,List.Pairwise.nil⟩
theorem Qos {a b:List Line} {I:List Int} (h:DifI a b [] [] I):I=unI a b:=by
 obtain ⟨D1,D2,h1,h2,h3⟩:=h.ex
 rw [List.append_nil] at h1 h2
 subst h1 h2
 exact Qhi h.asc (Qeu _).1 fun x=>by unfold unI;rw [h3,(Qeu _).2]
theorem QfD.app {l m:List Line} (h:QfD (l++m)):QfD l/\QfD m/\∀ x∈l,∀ y∈m,x.item<y.item:=List.pairwise_append.1 h
theorem QeI {R:List Line} (h:QfD R) (hn:0<R.length):∀ x∈R.drop 1,(gd R 0).item<x.item:=by
 cases R with
 | nil=>simp at hn
 | cons y R=>exact (List.pairwise_cons.1 h).1
theorem QhK {R:List Line} (hn:0<R.length):R=gd R 0 :: R.drop 1:=by cases R with|nil=>simp at hn|cons y R=>rfl
theorem Qv8 {I:List Int} {n:Int} (h:I.Pairwise (· < ·)) (hn:∀ i∈I,i<n):(I++[n]).Pairwise (· < ·):=by
 rw [List.pairwise_append];exact ⟨h,by simp,fun a ha b hb=>by simp at hb;subst hb;exact hn a ha⟩
theorem QmN {a b R1 R2:List Line} {I:List Int} (ha:QfD a) (hb:QfD b) (h:DifI a b R1 R2 I) (hn:0<R1.length) (hlt:∀ x∈R2,(gd R1 0).item<x.item):DifI a b (R1.drop 1) R2 (I++[(gd R1 0).item])/\qL a (gd R1 0).item=(gd R1 0).qty/\qL b (gd R1 0).item=0:=by
 obtain ⟨D1,D2,h1,h2,h3⟩:=h.ex
 have hm:gd R1 0∈R1:=QbG hn
 have hr1:=(QfD.app (h1 ▸ ha)).2.1
 refine ⟨⟨⟨D1++[gd R1 0],D2,?_,h2,fun i=>?_⟩,fun i hi x hx=>?_,Qv8 h.asc fun i hi=>h.lt i hi _ (.inl hm)⟩,Qq9 ha (by rw [h1];exact List.mem_append_right _ hm),QiW fun x hx=>?_⟩
 ·rw [List.append_assoc,h1];congr 1;exact QhK hn
 ·rw [List.mem_append,h3,List.mem_singleton];simp only [List.map_append,List.mem_append,List.map_cons,List.map_nil,List.mem_singleton]
  constructor
  ·rintro ((h|h)|h)
   ·exact .inl (.inl h)
   ·exact .inr h
   exact .inl (.inr h)
  rintro ((h|h)|h)
  ·exact .inl (.inl h)
  ·exact .inr h
  exact .inl (.inr h)
 ·rcases List.mem_append.1 hi with hi|hi
  ·refine h.lt i hi x ?_
   rcases hx with hx|hx
   ·exact .inl (List.mem_of_mem_drop hx)
   exact .inr hx
  simp at hi;subst hi
  rcases hx with hx|hx
  ·exact QeI hr1 hn x hx
  exact hlt x hx
 rw [h2] at hx
 rcases List.mem_append.1 hx with hx|hx
 ·have h4:=h.lt x.item ((h3 _).2 (List.mem_map.2 ⟨x,List.mem_append_right _ hx,rfl⟩)) _ (.inl hm)
  omega
 have:=hlt x hx;omega
theorem Qqg {a b R1 R2:List Line} {I:List Int} (ha:QfD a) (hb:QfD b) (h:DifI a b R1 R2 I) (hn:0<R2.length) (hlt:∀ x∈R1,(gd R2 0).item<x.item):DifI a b R1 (R2.drop 1) (I++[(gd R2 0).item])/\qL a (gd R2 0).item=0/\qL b (gd R2 0).item=(gd R2 0).qty:=by
 have hs:DifI b a R2 R1 I:=by
  obtain ⟨D1,D2,h1,h2,h3⟩:=h.ex
  exact ⟨⟨D2,D1,h2,h1,fun i=>by rw [h3];simp only [List.map_append,List.mem_append];exact Or.comm⟩,fun i hi x hx=>h.lt i hi x hx.symm,h.asc⟩
 obtain ⟨h1,h2,h3⟩:=QmN hb ha hs hn hlt
 refine ⟨?_,h3,h2⟩
 obtain ⟨D1,D2,e1,e2,e3⟩:=h1.ex
 exact ⟨⟨D2,D1,e2,e1,fun i=>by rw [e3];simp only [List.map_append,List.mem_append];exact Or.comm⟩,fun i hi x hx=>h1.lt i hi x hx.symm,h1.asc⟩
theorem Qqn {a b R1 R2:List Line} {I:List Int} (ha:QfD a) (hb:QfD b) (h:DifI a b R1 R2 I) (hn1:0<R1.length) (hn2:0<R2.length) (he:(gd R1 0).item=(gd R2 0).item):DifI a b (R1.drop 1) (R2.drop 1) (I++[(gd R1 0).item])/\qL a (gd R1 0).item=(gd R1 0).qty/\qL b (gd R1 0).item=(gd R2 0).qty:=by
 obtain ⟨D1,D2,h1,h2,h3⟩:=h.ex
 have hm:gd R1 0∈R1:=QbG hn1
 have hm2:gd R2 0∈R2:=QbG hn2
 have hr1:=(QfD.app (h1 ▸ ha)).2.1
 have hr2:=(QfD.app (h2 ▸ hb)).2.1
 refine ⟨⟨⟨D1++[gd R1 0],D2++[gd R2 0],?_,?_,fun i=>?_⟩,fun i hi x hx=>?_,Qv8 h.asc fun i hi=>h.lt i hi _ (.inl hm)⟩,Qq9 ha (by rw [h1];exact List.mem_append_right _ hm),by rw [he];exact Qq9 hb (by rw [h2];exact List.mem_append_right _ hm2)⟩
 ·rw [List.append_assoc,h1];congr 1;exact QhK hn1
 ·rw [List.append_assoc,h2];congr 1;exact QhK hn2
 ·rw [List.mem_append,h3,List.mem_singleton];simp only [List.map_append,List.mem_append,List.map_cons,List.map_nil,List.mem_singleton]
  constructor
  ·rintro ((h|h)|h)
   ·exact .inl (.inl h)
   ·exact .inr (.inl h)
   exact .inl (.inr h)
  rintro ((h|h)|(h|h))
  ·exact .inl (.inl h)
  ·exact .inr h
  ·exact .inl (.inr h)
  exact .inr (h.trans he.symm)
 rcases List.mem_append.1 hi with hi|hi
 ·refine h.lt i hi x ?_
  rcases hx with hx|hx
  ·exact .inl (List.mem_of_mem_drop hx)
  exact .inr (List.mem_of_mem_drop hx)
 simp at hi;subst hi
 rcases hx with hx|hx
 ·exact QeI hr1 hn1 x hx
 rw [he];exact QeI hr2 hn2 x hx
theorem Qhq {c n was nw:Int} {a b:List Line} {I:List Int} {L out:List Dif} (h:out=L++I.flatMap (Qhc c a b)) (h1:qL a n=was) (h2:qL b n=nw) (hne:¬was=nw):out++[⟨c,n,false,was,nw⟩]=L++(I++[n]).flatMap (Qhc c a b):=by
 rw [List.flatMap_append,← List.append_assoc,← h]
 congr 1
 simp only [List.flatMap_cons,List.flatMap_nil,List.append_nil]
 unfold Qhc;rw [h1,h2,if_neg hne]
theorem Qnz {c n was nw:Int} {a b:List Line} {I:List Int} {L out:List Dif} (h:out=L++I.flatMap (Qhc c a b)) (h1:qL a n=was) (h2:qL b n=nw) (hne:was=nw):out=L++(I++[n]).flatMap (Qhc c a b):=by
 rw [List.flatMap_append,← List.append_assoc,← h]
 simp only [List.flatMap_cons,List.flatMap_nil,List.append_nil]
 unfold Qhc;rw [h1,h2,if_pos hne,List.append_nil]
theorem QfO {R1 R2:List Line} (hr:QfD R2) (h:R2.length=0∨(0<R1.length/\(gd R1 0).item<(gd R2 0).item)):∀ x∈R2,(gd R1 0).item<x.item:=by
 intro x hx
 rcases h with h|h
 ·rw [List.eq_nil_of_length_eq_zero h] at hx;cases hx
 have hn:0<R2.length:=List.length_pos_of_mem hx
 rw [QhK hn] at hx
 rcases List.mem_cons.1 hx with e|e
 ·rw [e];exact h.2
 have:=QeI hr hn x e;omega
theorem Qpn {a b R1 R2:List Line} {I:List Int} (ha:QfD a) (hb:QfD b) (h:DifI a b R1 R2 I):QfD R1/\QfD R2:=by
 obtain ⟨D1,D2,h1,h2,_⟩:=h.ex
 exact ⟨(QfD.app (h1 ▸ ha)).2.1,(QfD.app (h2 ▸ hb)).2.1⟩
theorem QoL {a b R1 R2:List Line} {I:List Int} (h:DifI a b R1 R2 I):(∀ x∈R1,x∈a)/\∀ x∈R2,x∈b:=by
 obtain ⟨D1,D2,h1,h2,_⟩:=h.ex
 subst h1 h2
 exact ⟨fun x hx=>List.mem_append_right _ hx,fun x hx=>List.mem_append_right _ hx⟩
def Qeo (TC T b:Nat) (L:List Dif):Res:=exR fun x:Option Addr × Nat=>star [blk b [(.slice x.1 L.length x.2:Value)] TC,row (.slice x.1 L.length x.2) (L.map dfc) T 5]
theorem Qpw {TC T b:Nat} {L:List Dif} {w:World} {S:Nat->Prop} (h:(Qeo TC T b L).holds w S) (hlt:∀ x,S x->x<w.heap.size):∃ a c,Own w S w [blk b [(.slice a L.length c:Value)] TC,row (.slice a L.length c) (L.map dfc) T 5]:=by
 obtain ⟨⟨a,c⟩,h⟩:=h
 exact ⟨a,c,Own.open h hlt⟩
theorem QoK {TC T b:Nat} {L:List Dif} {w w0:World} {M:Nat->Prop} {a:Option Addr} {c:Nat} (h:Own w0 M w [blk b [(.slice a L.length c:Value)] TC,row (.slice a L.length c) (L.map dfc) T 5]):Own w0 M w [Qeo TC T b L]:=(Own.shut h).conv 0 rfl fun _ h=>⟨(a,c),h⟩
section
variable {P:Program} {ty:TypeId} {e:Operand->Value} {w:World} {K:Value->World->Prop} {w0:World} {M:Nat->Prop} {L:List Res}
theorem QpT {α:Type} {f:FuncId} {x:Operand} {xs:List Operand} {vs cs:List Value} {ats:Array TypeId} {V:α->Value} {R:Res} {R':α->Res} {Lo:α->List Res} {F:α->World->Prop} (hf:En P f) (hx:e x = .func (.func f) #[] cs.toArray) (hv:xs.map e=vs)
  (hs:Own w0 M w L) (i:Nat) (hi:L[i]?=some R)
  (hc:∀ S,R.holds w S->(∀ b,S b->b<w.heap.size)->Calls P f (vs++cs).toArray w fun r w'=>∃ x,r = .returned (V x)/\Own w S w' (R' x :: Lo x)/\F x w') (h:∀ x w',Own w0 M w' (L.set i (R' x)++Lo x)->F x w'->K (V x) w') :
  opW P (.call { callee:=.value x,args:=xs.toArray,argTypes:=ats }) ty e w K:=by
 obtain ⟨S,hR,hlt,hback⟩:=hs.lend i hi
 exact Qv4 hf hx hv ((hc S hR hlt).mono fun r w' ⟨x,hr,ho,hF⟩=>⟨V x,hr,h x w' (hback w' _ _ ho) hF⟩)
end
end Go.Vx
namespace Go.Vx
theorem QvK {n1 n2:Nat} {x y:Int} (h0:(decide (0<(n1:Int))||decide (0<(n2:Int)))=true) (h:(decide ((n2:Int)=0)||(decide (0<(n1:Int))&&decide (x<y)))=true):0<n1/\(n2=0∨(0<n1/\x<y)):=by
 simp only [Bool.or_eq_true,Bool.and_eq_true,decide_eq_true_eq] at h0 h
 rcases h with h|h
 ·exact ⟨by omega,.inl (by omega)⟩
 exact ⟨by omega,.inr ⟨by omega,h.2⟩⟩
theorem Qvp {n1 n2:Nat} {x y:Int} (hn:0<n2) (h:(decide ((n1:Int)=0)||decide (y<x))=true):n1=0∨(0<n2/\y<x):=by
 simp only [Bool.or_eq_true,decide_eq_true_eq] at h
 rcases h with h|h
 ·exact .inl (by omega)
 exact .inr ⟨hn,h⟩
theorem QvT {n1:Nat} {x y:Int} (h:(decide (0<(n1:Int))&&decide (x<y))=false) (hn:0<n1) (hy:¬y<x):x=y:=by
 rw [QQ3 (by omega:0<(n1:Int)),Bool.true_and,decide_eq_false_iff_not] at h
 omega
end Go.Vx
namespace Go.Vx
theorem QkA {la lb R1 R2:List Line} {I:List Int} {c:Int} {L out:List Dif} (h:DifI la lb R1 R2 I) (h1:¬0<R1.length) (h2:¬0<R2.length) (ho:out=L++I.flatMap (Qhc c la lb)):out=L++(unI la lb).flatMap (Qhc c la lb):=by
 have hR1:R1=[]:=List.eq_nil_of_length_eq_zero (by omega)
 have hR2:R2=[]:=List.eq_nil_of_length_eq_zero (by omega)
 subst hR1 hR2
 rw [ho,Qos h]
theorem QnD {va vb at_ bt:Int} {ao bo:Bool} {la lb:List Line} {L out:List Dif} (ho:out=L++(unI la lb).flatMap (Qhc vb la lb)) (h:ao=bo):out=L++QcX ⟨va,la,ao,at_⟩ ⟨vb,lb,bo,bt⟩:=by
 unfold QcX QgG;rw [ho,if_pos h,List.append_nil]
theorem Qm7 {va vb at_ bt:Int} {ao bo:Bool} {la lb:List Line} {L out:List Dif} (ho:out=L++(unI la lb).flatMap (Qhc vb la lb)) (h:¬ao=bo):out++[⟨vb,0,true,QcF ao,QcF bo⟩]=L++QcX ⟨va,la,ao,at_⟩ ⟨vb,lb,bo,bt⟩:=by
 unfold QcX QgG;rw [ho,if_neg h,List.append_assoc]
end Go.Vx
namespace Go.Proofs
open Go Go.Vx Go.RowKit
namespace Tt
theorem Qq4:T1 Tryz.prog 60:=⟨Tryz.sizeOf60,Tryz.isAgg60⟩
theorem QfF:TA Tryz.prog 83 5:=⟨Tryz.sizeOf83,Tryz.isAgg83⟩
theorem QmH:Bt Tryz.prog 83 [(0,1),(1,1),(2,1),(3,1),(4,1)] (dfc (⟨0,0,false,0,0⟩:Dif)):=Qci Tryz.type83 rfl rfl Tryz.underlying83 (by kernel_rfl)
theorem Qum:El Tryz.prog 60 83 5 16:=⟨Tryz.underlying60,_,_,Tryz.type83,rfl,rfl,rfl,rfl,by decide⟩
theorem Qqc:En Tryz.prog 106:=Tryz.call106
theorem QpB:En Tryz.prog 65:=Tryz.call65
theorem Qdf:FA Tryz.prog 127 0 0:=fun b o w=>by simp [Instr.fieldAt,Instr.sureAddr,fieldPlace,Qbg]
theorem QeO:FA Tryz.prog 127 1 1:=fun b o w=>by simp [Instr.fieldAt,Instr.sureAddr,fieldPlace,Qbg]
theorem Qjk:FA Tryz.prog 83 1 1:=fun b o w=>by simp [Instr.fieldAt,Instr.sureAddr,fieldPlace,Qbg]
theorem Qf1:FA Tryz.prog 83 3 3:=fun b o w=>by simp [Instr.fieldAt,Instr.sureAddr,fieldPlace,Qbg]
theorem Qgn:FA Tryz.prog 83 4 4:=fun b o w=>by simp [Instr.fieldAt,Instr.sureAddr,fieldPlace,Qbg]
theorem Qkv:Tryz.prog.underlying 47=some (.slice 127):=Tryz.underlying47
theorem Qud:Zv Tryz.prog 83 (.agg (dfc (⟨0,0,false,0,0⟩:Dif)).toArray):=Tryz.zeroValue83
end Tt
end Go.Proofs
namespace Go.Vx
theorem QjD (s:Sta) (c:Int) (r:Bool):QfD (QaI s c r).lines:=by
 unfold QaI;split
 ·exact List.pairwise_map.2 (Qeu _).1
 exact List.Pairwise.nil
theorem QhZ (l:List Int):(QeX l).length<=l.length:=by
 have h:∀ l:List Int,(l.foldl (fun m x=>if x∈m then m else m++[x]) []).length<=l.length:=by
  refine Qbs (Nat.le_refl _) fun l a ih=>?_
  rw [List.foldl_append,QQ7]
  show (if a∈_ then _ else _:List Int).length<=_
  split
  ·omega
  rw [QQ7];simp;omega
 unfold QeX;rw [QeR];exact h l
theorem Qe9 (s:Sta) (c:Int) (r:Bool):(QaI s c r).lines.length<=s.ents.length:=by
 unfold QaI;split
 ·show ((QeX (Qes s c)).map _).length<=_
  rw [QQ6]
  refine Nat.le_trans (QhZ _) ?_
  unfold Qes;rw [QQ6];exact List.length_filter_le _ _
 exact Nat.zero_le _
theorem Qps (a b:Vw):(QcX a b).length<=a.lines.length+b.lines.length+1:=by
 unfold QcX
 rw [QQ7]
 have h1:∀ l:List Int,(l.flatMap (Qhc b.cart a.lines b.lines)).length<=l.length:=by
  intro l
  induction l with
  | nil=>exact Nat.le_refl _
  | cons x l ih =>
   rw [List.flatMap_cons,QQ7,List.length_cons]
   have:(Qhc b.cart a.lines b.lines x).length<=1:=by unfold Qhc;split<;>simp
   omega
 have h2:=h1 (unI a.lines b.lines)
 have h3:=QhZ ((a.lines++b.lines).map (·.item))
 have h4:(QgG a b).length<=1:=by unfold QgG;split<;>simp
 rw [QQ6,QQ7] at h3
 unfold unI at h2 ⊢
 omega
def QbK (p:Pst) (a b:Vec):Int:=if Qbh p a=0 then (if Qbh p b=0 then (if vle a b=true then 0 else 14) else Qbh p b) else Qbh p a
def Qjy (p:Pst) (a b:Vec) (n:Int):List Dif:=QcX (QaO p a n) (QaO p b n)
def Qa6 (p:Pst) (a b:Vec):List Dif:=if QbK p a b=0 then (Qay (Qah p b)).flatMap (Qjy p a b) else []
theorem QhJ {p:Pst} {a b:Vec} (h:¬QbK p a b=0):Qa6 p a b=[]:=if_neg h
theorem Qq3 {p:Pst} {a b:Vec} (h:¬Qbh p a=0):QbK p a b=Qbh p a:=if_neg h
theorem QrX {p:Pst} {a b:Vec} (h1:Qbh p a=0) (h:¬Qbh p b=0):QbK p a b=Qbh p b:=by unfold QbK;rw [if_pos h1,if_neg h]
theorem Qrg {p:Pst} {a b:Vec} (h1:Qbh p a=0) (h2:Qbh p b=0) (h:vle a b=false):QbK p a b=14:=by unfold QbK;rw [if_pos h1,if_pos h2,if_neg (by rw [h];decide)]
theorem Qi5 {p:Pst} {a b:Vec} (h1:Qbh p a=0) (h2:Qbh p b=0) (h:vle a b=true):QbK p a b=0:=by unfold QbK;rw [if_pos h1,if_pos h2,if_pos h]
theorem QlX {p:Pst} {a b:Vec} {l:List Int} {k:Nat} {out:List Dif} (h:out=(l.take k).flatMap (Qjy p a b)) (hk:k<l.length):out++Qjy p a b (gd l k)=(l.take (k+1)).flatMap (Qjy p a b):=by
 rw [Qbx hk,List.flatMap_append,← h];simp
theorem Qoy {p:Pst} {a b:Vec} {k:Nat} {out:List Dif} (hI:QbK p a b=0) (h:out=((Qay (Qah p b)).take k).flatMap (Qjy p a b)) (hk:¬k<(Qay (Qah p b)).length):Qa6 p a b=out:=by
 unfold Qa6;rw [if_pos hI,h,Qcz hk]
theorem Qi6 {p:Pst} {b:Vec} (hok:Qdq p) (h:Qbh p b=0):Qay (Qah p b)=(Qah p b).ticks.map (·.cart):=by
 unfold Qay;rw [if_pos (Qfu hok h)]
theorem Qir (s:Sta):(Qay s).length<=s.ticks.length:=by
 unfold Qay;split
 ·rw [QQ6];exact Nat.le_refl _
 exact Nat.zero_le _
def QgJ (v:Vw) (now idle:Int):Bool:=decide (((v.lines.length:Nat):Int)=0)||v.out||decide (now-idle<v.tick)
def abI (p:Pst) (cut:Vec) (now idle:Int):Int:=if Qbh p cut=0 then (if now<idle then 2 else 0) else Qbh p cut
def abR (p:Pst) (cut:Vec) (now idle:Int):List Int:=if abI p cut now idle=0 then (Qay (Qah p cut)).filter (fun n=>!QgJ (QaO p cut n) now idle) else []
theorem QuW {p:Pst} {c:Vec} {n i:Int} (h:¬Qbh p c=0):abI p c n i=Qbh p c:=if_neg h
theorem QvX {p:Pst} {c:Vec} {n i:Int} (h:Qbh p c=0) (h2:n<i):abI p c n i=2:=by unfold abI;rw [if_pos h,if_pos h2]
theorem Qui {p:Pst} {c:Vec} {n i:Int} (h:Qbh p c=0) (h2:¬n<i):abI p c n i=0:=by unfold abI;rw [if_pos h,if_neg h2]
theorem Quk {p:Pst} {c:Vec} {n i:Int} (h:¬abI p c n i=0):abR p c n i=[]:=if_neg h
theorem Qp1 {p:Pst} {c:Vec} {n i:Int} (h:abI p c n i=0):abR p c n i=(Qay (Qah p c)).filter (fun m=>!QgJ (QaO p c m) n i):=if_pos h
end Go.Vx
namespace Go.Vx
theorem QoM {l:List Line} {n:Int} {k:Nat} (hno:∀ j:Nat,j<k->decide ((gd l j).item=n)=false) (hk:k<l.length) (he:(gd l k).item=n):qL l n=(gd l k).qty:=by
 have e:l=l.take k++gd l k :: l.drop (k+1):=by rw [← QhW hk];exact (List.take_append_drop k l).symm
 unfold qL
 rw [e,List.find?_append,List.find?_eq_none.2,List.find?_cons,QQ3 he]
 ·rw [← e];rfl
 intro x hx
 obtain ⟨j,hj,rfl⟩:=List.mem_take_iff_getElem.1 hx
 have h2:=hno j (by omega)
 rw [show gd l j=l[j] by simp [gd,show j<l.length by omega]] at h2
 simpa using h2
theorem Qvc {l:List Line} {n:Int} (hno:∀ j:Nat,j<l.length->decide ((gd l j).item=n)=false):qL l n=0:=by
 refine QiW fun x hx=>?_
 obtain ⟨j,hj,rfl⟩:=List.mem_iff_getElem.1 hx
 have h2:=hno j hj
 rw [show gd l j=l[j] by simp [gd,hj]] at h2
 simpa using h2
end Go.Vx
namespace Go.Vx
theorem Qlb (s:Sta) (c:Int) (r:Bool):(QaI s c r).cart=c:=by unfold QaI;split<;>rfl
end Go.Vx
namespace Go.Proofs
open Go Go.Vx Go.RowKit
namespace Tt
theorem Qtz:En Tryz.prog 110:=Tryz.call110
theorem Qsy:En Tryz.prog 63:=Tryz.call63
theorem Qu9:En Tryz.prog 64:=Tryz.call64
theorem Qu5:En Tryz.prog 67:=Tryz.call67
theorem Qvh:En Tryz.prog 68:=Tryz.call68
theorem Qp3:Tryz.prog.underlying 69=some (.slice 32):=Tryz.underlying69
theorem QvA:Zv Tryz.prog 32 (.int .u16 0):=Tryz.zeroValue32
theorem Qv0:Zv Tryz.prog 60 (.slice none 0 0):=Tryz.zeroValue60
end Tt
end Go.Proofs
namespace Go.Vx
def alK:Vec:=vset vzero 0 1
def Qdo:Vec:=vset vzero 0 2
def Qst:Vec:=vset (vset vzero 0 0) 1 1
def alP:Pst:=⟨⟨vzero,[],[]⟩,[Qql],alK⟩
theorem QiE:QbM alK:=Qgy QcD _ (by decide) (by decide)
theorem Qq0:QbM Qdo:=Qgy QcD _ (by decide) (by decide)
theorem Qrl:QbM Qst:=Qgy (Qgy QcD _ (by decide) (by decide)) _ (by decide) (by decide)
theorem Qg6:Qdq alP:=⟨Qht,fun o ho=>by simp [alP] at ho;subst ho;exact Qrh,QiE⟩
theorem Qfg:Qbh alP alK=0:=by decide +kernel
theorem Qnq:Qbh alP vzero=0:=by decide +kernel
theorem QrG:Qbh alP Qdo=11:=by decide +kernel
theorem Qsi:Qbh alP Qst=11:=by decide +kernel
theorem QmC:Qah alP alK=Qof:=by unfold Qah;rw [if_pos Qfg];rfl
theorem Qul:Qah alP vzero=szero:=by unfold Qah;rw [if_pos Qnq];rfl
theorem QnC (n:Int):QaO alP alK n=QaI Qof n (Qav Qof):=by unfold QaO;rw [QmC]
theorem Qsa:Qas alP alK 3=⟨3,[(⟨4,2⟩:Line)],false,5⟩:=by rw [QdA Qfg,QnC,QuX]
theorem Qty:QaO alP vzero 3=⟨3,[],false,0⟩:=by
 unfold QaO;rw [Qul]
 have h1:Qav szero=true:=by decide +kernel
 rw [h1]
 show Qln szero 3=_
 unfold Qln
 have h2:QeX (Qes szero 3)=[]:=by
  show QeX []=[]
  exact QmX
 rw [h2];rfl
theorem Qku:Qay (Qah alP alK)=[3]:=by
 rw [QmC];unfold Qay;rw [if_pos (by decide +kernel)];rfl
theorem QtX:QbK alP vzero alK=0:=by rw [Qi5 Qnq Qfg (by decide +kernel)]
theorem QrZ:Qa6 alP vzero alK=[⟨3,4,false,0,2⟩]:=by
 unfold Qa6
 rw [if_pos QtX,Qku]
 simp only [List.flatMap_cons,List.flatMap_nil,List.append_nil]
 unfold Qjy
 rw [Qty,QnC,QuX]
 unfold QcX
 have h:unI [] [(⟨4,2⟩:Line)]=[4]:=by
  show Qa7 _=_
  exact QmM 4
 dsimp only
 rw [h];rfl
theorem Qtc:abI alP alK 9 4=0:=by rw [Qui Qfg (by decide)]
theorem Qvq:abR alP alK 9 4=[3]:=by
 rw [Qp1 Qtc,Qku]
 have:QgJ (QaO alP alK 3) 9 4=false:=by rw [QnC,QuX];rfl
 simp [this]
theorem Qrp:(Qah alP alK).ents.length=1:=by rw [QmC];rfl
end Go.Vx
namespace Go.Proofs
open Go Go.Vx Go.RowKit
namespace Tt
theorem Quz (a b:Dif):EqF Tryz.prog 2 83 (.agg (dfc a).toArray) (.agg (dfc b).toArray) (decide (a=b)):=by
 rw [← QqP]
 exact Qg2 (D:=1) Tryz.underlying83 Tryz.stoodInHeld83 (.cons (by decide) (Qbt ⟨Tryz.sizeOf32,Tryz.isAgg32⟩ rfl) (Qbt ⟨Tryz.sizeOf32,Tryz.isAgg32⟩ rfl) ((Qey Tryz.runUnderlying32).up (by decide)) (.cons (by decide) (Qbt ⟨Tryz.sizeOf32,Tryz.isAgg32⟩ rfl) (Qbt ⟨Tryz.sizeOf32,Tryz.isAgg32⟩ rfl) ((Qey Tryz.runUnderlying32).up (by decide)) (.cons (by decide) (Qbt ⟨Tryz.sizeOf4,Tryz.isAgg4⟩ rfl) (Qbt ⟨Tryz.sizeOf4,Tryz.isAgg4⟩ rfl) ((QpL Tryz.runUnderlying4).up (by decide)) (.cons (by decide) (Qbt ⟨Tryz.sizeOf22,Tryz.isAgg22⟩ rfl) (Qbt ⟨Tryz.sizeOf22,Tryz.isAgg22⟩ rfl) ((Qey Tryz.runUnderlying22).up (by decide)) (.cons (by decide) (Qbt ⟨Tryz.sizeOf22,Tryz.isAgg22⟩ rfl) (Qbt ⟨Tryz.sizeOf22,Tryz.isAgg22⟩ rfl) ((Qey Tryz.runUnderlying22).up (by decide)) .nil)))))
theorem QiG:Bt Tryz.prog 24 [(0,1),(1,1),(2,1),(3,1),(4,1),(5,1),(6,1),(7,1),(8,1),(9,1),(10,1),(11,1),(12,1),(13,1),(14,1),(15,1)] (vc vzero):=QoJ Tryz.type24 rfl rfl Tryz.underlying24 Tryz.type22 rfl (k:=1) rfl
theorem QuP:Bt Tryz.prog 96 [(0,1),(1,1)] (dc (⟨0,0⟩:Dot)):=Qci Tryz.type96 rfl rfl Tryz.underlying96 (by kernel_rfl)
theorem QuR:En Tryz.prog 10:=Tryz.call10
theorem QpY:En Tryz.prog 15:=Tryz.call15
theorem Qrq:En Tryz.prog 22:=Tryz.call22
theorem QvP:En Tryz.prog 25:=Tryz.call25
theorem QkT:Ud Tryz.prog 60 (.slice 83):=Tryz.runUnderlying60
end Tt
end Go.Proofs
namespace Go.Vx
def QdR (l:List Opn) (v:Vec):Bool:=QbR l&&decide (((l.length:Nat):Int)<=30)&&Qbc (QaC l v)
def Qgh (l:List Opn) (v:Vec):List Opn:=l.filter fun o=>!Qbv v o.dot
def QlS (l:List Opn) (v:Vec):Pst:=⟨Qc2 (QaC l v),Qgh l v,Qbq l⟩
def pzero:Pst:=⟨szero,[],vzero⟩
def Qaj (l:List Opn) (v:Vec):Pst:=if QdR l v=true then QlS l v else pzero
theorem Qgk {α:Type} (p:α->Bool):∀ (l:List α) (k:Nat),∃ m,(l.take k).filter p=(l.filter p).take m
 | [],k=>⟨0,by simp⟩
 | x :: l,0=>⟨0,by simp⟩
 | x :: l,k+1=>by
  obtain ⟨m,h⟩:=Qgk p l k
  rw [List.take_succ_cons,List.filter_cons,List.filter_cons]
  split
  ·exact ⟨m+1,by rw [h,List.take_succ_cons]⟩
  exact ⟨m,h⟩
theorem QiT {l:List Opn} {v:Vec} (hu:Seq (QaC l v)) (k:Nat):Seq (QaC (l.take k) v):=by
 obtain ⟨m,h⟩:=Qgk (fun o:Opn=>Qbv v o.dot) l k
 unfold QaC at hu ⊢
 rw [h];exact hu.take m
theorem QnM {l:List Opn} {v:Vec} {k:Nat} {s:Sta} (hu:Seq (QaC l v)) (hs:s=Qc2 (QaC (l.take k) v)) (hk:k<l.length) (hp:Qbv v (gd l k).dot=true):QcS s (gd l k)=0/\QaS s (gd l k)=Qc2 (QaC (l.take (k+1)) v):=by
 subst hs
 have h1:=QiT hu (k+1)
 have e:QaC (l.take (k+1)) v=QaC (l.take k) v++[gd l k]:=(Qe6 rfl hk hp).symm
 rw [e] at h1
 have h3:QcS (Qc2 (QaC (l.take k) v)) (gd l k)=0:=by
  unfold QcS
  rw [if_pos (QcH.2 h1.cut.1.right),Qc5];exact h1.ready
 exact ⟨h3,by unfold QaS;rw [if_pos h3,e,QdB]⟩
theorem Qrd {l:List Opn} {v:Vec} {k:Nat} {s:Sta} (hu:Seq (QaC l v)) (hs:s=Qc2 (QaC (l.take k) v)) (hk:k<=l.length):Qdx s/\s.ents.length<=k/\s.ticks.length<=k:=by
 subst hs
 have h1:=Qj4 (QaC (l.take k) v)
 have h2:=QeP (l.take k) v
 rw [List.length_take] at h2
 exact ⟨(QiT hu k).ok,by omega,by omega⟩
theorem Qpl {l:List Opn} {v:Vec} {k:Nat} {o:List Opn} (h:o=Qgh (l.take k) v) (hk:k<l.length) (hp:Qbv v (gd l k).dot=false):o++[gd l k]=Qgh (l.take (k+1)) v:=by
 unfold Qgh at *;rw [Qbx hk,List.filter_append,← h];simp [hp]
theorem Qrt {l:List Opn} {v:Vec} {k:Nat} {o:List Opn} (h:o=Qgh (l.take k) v) (hk:k<l.length) (hp:Qbv v (gd l k).dot=true):o=Qgh (l.take (k+1)) v:=by
 unfold Qgh at *;rw [Qbx hk,List.filter_append,← h];simp [hp]
theorem QlJ {l:List Opn} {v:Vec} {k:Nat} {s:Sta} (h:s=Qc2 (QaC (l.take k) v)) (hk:k<l.length) (hp:Qbv v (gd l k).dot=false):s=Qc2 (QaC (l.take (k+1)) v):=by
 rw [h,← QhO rfl hk hp]
theorem Qii {l:List Opn} {u:Vec} {k:Nat} (hq:Seq l) (hu:u=Qbq (l.take k)) (hk:k<l.length):vset u (gd l k).dot.rep.toNat (max (vat u (gd l k).dot.rep.toNat) (gd l k).dot.seq)=Qbq (l.take (k+1)):=by
 have h1:=hq.take (k+1)
 rw [Qbx hk] at h1
 have h2:=Qeb h1.ready
 have h4:=h1.cut.2.2.2.1
 have h5:¬Qbv (Qbq (l.take k)) (gd l k).dot=true:=by rw [h2.2.1];decide
 rw [Qd7 h4] at h5
 rw [Qbx hk,Qda,hu]
 congr 1
 omega
theorem QjN {l:List Opn} {v:Vec} (hl:∀ o∈l,Qcc o) (h1:QbR l=true) (h2:Qbc (QaC l v)=true):Seq l/\Seq (QaC l v)/\IsClosed (QaC l v):=by
 obtain ⟨_,_,hq⟩:=QpF hl h1
 have hc:=(Qjn fun o ho=>hl o (Qc8 ho)).1 h2
 exact ⟨hq,hq.sub (Qls hc),hc⟩
theorem Qoa {l:List Opn} {v:Vec} (h1:QbR l=true) (h2:l.length<=30) (h3:Qbc (QaC l v)=true):QdR l v=true/\Qaj l v=QlS l v:=by
 have:QdR l v=true:=by unfold QdR;rw [h1,h3,QQ3 (by omega)];rfl
 exact ⟨this,if_pos this⟩
theorem Qmf {l:List Opn} {v:Vec} (h:(!QbR l||decide (30<((l.length:Nat):Int))||!Qbc (QaC l v))=true):QdR l v=false/\Qaj l v=pzero:=by
 have:QdR l v=false:=by
  unfold QdR
  cases h1:QbR l<;>cases h3:Qbc (QaC l v)<;>simp [h1,h3] at h ⊢
  omega
 exact ⟨this,if_neg (by rw [this];decide)⟩
theorem Qo7 {l:List Opn} {v:Vec} {k:Nat} {s:Sta} {o:List Opn} {u:Vec} (hk:¬k<l.length) (hs:s=Qc2 (QaC (l.take k) v)) (ho:o=Qgh (l.take k) v) (hu:u=Qbq (l.take k)):QlS l v=⟨s,o,u⟩:=by
 rw [Qcz hk] at hs ho hu
 rw [hs,ho,hu];rfl
end Go.Vx
namespace Go.Vx
theorem QuJ {v:Vec} {A:List Value} {n i o:Nat} (hA:A.length=n) (h:i<16) (ho:o=n+i):(A++vc v)[o]?=some (.int .u32 (vat v i)):=by
 subst ho;rw [List.getElem?_append_right (by omega),hA,Nat.add_sub_cancel_left];exact Qhr v _ h
theorem QqL {v:Vec} {A:List Value} {n i o:Nat} {x:Int} (hA:A.length=n) (h:i<16) (ho:o=n+i):(A++vc v).set o (.int .u32 x)=A++vc (vset v i x):=by
 subst ho;rw [List.set_append_right _ _ (by omega),hA,Nat.add_sub_cancel_left,QmK v _ h x]
theorem QsS {v:Vec} {A:List Value} {n i o:Nat} (hA:A.length=n) (h:i<16) (ho:o=n+i):o<(A++vc v).length:=by
 rw [QQ7,Qkl];omega
end Go.Vx
namespace Go.Vx
theorem QsM {l:List Opn} (h:QbR l=true/\l.length<=30):(!QbR l||decide (30<((l.length:Nat):Int)))=false:=by rw [h.1,QQ4 (by omega)];rfl
theorem Qqf {l:List Opn} (h:¬(QbR l=true/\l.length<=30)):(!QbR l||decide (30<((l.length:Nat):Int)))=true:=by
 cases h1:QbR l with
 | false=>rfl
 | true=>rw [QQ3 (by have:¬l.length<=30:=fun e=>h ⟨h1,e⟩;omega)];rfl
theorem QpN {l:List Opn} {v:Vec} (h:¬(QbR l=true/\l.length<=30)):QdR l v=false/\Qaj l v=pzero:=Qmf (by rw [Qqf h];rfl)
theorem QpP {l:List Opn} {v:Vec} (h:Qbc (QaC l v)=false):QdR l v=false/\Qaj l v=pzero:=Qmf (by rw [h];simp)
end Go.Vx
namespace Go.Vx
theorem Qn8 {A B R S:List Value} (h:B.length=A.length):spl (A++R++S) 0 B=B++R++S:=by
 rw [List.append_assoc,List.append_assoc];exact Qq6 h
end Go.Vx
namespace Go.Proofs
open Go Go.Vx Go.RowKit
namespace Tt
theorem QuL:En Tryz.prog 69:=Tryz.call69
theorem Qu6:En Tryz.prog 72:=Tryz.call72
end Tt
end Go.Proofs
namespace Go.Vx
structure PastI (l:List Opn) (v:Vec):Prop where
 ok:Qdq (Qaj l v)
 le:(Qaj l v).base.ents.length<=400
 lt:(Qaj l v).base.ticks.length<=400
 lo:(Qaj l v).ops.length<=400
 eq:Qaj l v=QlS l v
 q:Seq l
 u:Seq (QaC l v)
 len:l.length<=30
theorem Qus {l:List Opn} {v:Vec} (hl:∀ o∈l,Qcc o) (h:QdR l v=true):PastI l v:=by
 have h0:=h
 unfold QdR at h0
 rw [Bool.and_eq_true,Bool.and_eq_true] at h0
 have h2:=QQ1 h0.1.2
 obtain ⟨hq,hu,hc⟩:=QjN hl h0.1.1 h0.2
 have he:Qaj l v=QlS l v:=if_pos h
 have h3:=Qj4 (QaC l v)
 have h4:=QeP l v
 have h5:(Qgh l v).length<=l.length:=List.length_filter_le _ _
 refine ⟨?_,?_,?_,?_,he,hq,hu,by omega⟩
 ·rw [he]
  refine ⟨hu.ok,fun o ho=>hl o (List.mem_filter.1 ho).1,?_⟩
  show QbM (Qbq l)
  rw [← Qc5];exact hq.ok.1
 ·rw [he];show (Qc2 _).ents.length<=_;omega
 ·rw [he];show (Qc2 _).ticks.length<=_;omega
 rw [he];show (Qgh l v).length<=_;omega
end Go.Vx
namespace Go.Proofs
open Go Go.Vx Go.RowKit
namespace Tt
theorem Qvr:En Tryz.prog 28:=Tryz.call28
theorem Qrj:Ud Tryz.prog 76 (.array 3 24):=Tryz.runUnderlying76
end Tt
end Go.Proofs
namespace Go.Vx
theorem Qf9 {p:Pst} {a b:Vec} (h:QbK p a b=0):Qbh p a=0/\Qbh p b=0/\vle a b=true:=by
 unfold QbK at h
 split at h
 ·rename_i h1
  split at h
  ·rename_i h2
   split at h
   ·exact ⟨h1,h2,‹_›⟩
   cases h
  exact absurd h ‹_›
 exact absurd h ‹_›
theorem QlY (v:Vw):QcX v v=[]:=by
 unfold QcX QgG
 rw [if_pos rfl,List.append_nil,List.flatMap_eq_nil_iff]
 intro x _
 unfold Qhc;rw [if_pos rfl]
theorem QnW {p:Pst} {a b:Vec} (h:QbK p a b=0):QbK p a a=0/\Qa6 p a a=[]:=by
 obtain ⟨h1,_,_⟩:=Qf9 h
 have h2:QbK p a a=0:=Qi5 h1 h1 (QjY a)
 refine ⟨h2,?_⟩
 unfold Qa6;rw [if_pos h2,List.flatMap_eq_nil_iff]
 intro x _
 exact QlY _
theorem Qg1 {s:List Lst} (hr:QdG s) {c:Int}:∀ u:List Opn,(QaM (QbT s u) c).isSome=true↔((QaM s c).isSome=true∨∃ o∈u,o.cart=c):=by
 refine Qbs (motive:=fun u=>(QaM (QbT s u) c).isSome=true↔((QaM s c).isSome=true∨∃ o∈u,o.cart=c)) ⟨fun h=>.inl h,fun h=>h.elim id fun ⟨o,ho,_⟩=>by cases ho⟩ fun u x ih=>?_
 rw [Qb9,Qdd (QcK hr u)]
 by_cases q:c=x.cart
 ·rw [if_pos q]
  exact ⟨fun _=>.inr ⟨x,by simp,q.symm⟩,fun _=>rfl⟩
 rw [if_neg q,ih]
 constructor
 ·rintro (h|⟨o,ho,h⟩)
  ·exact .inl h
  exact .inr ⟨o,List.mem_append_left _ ho,h⟩
 rintro (h|⟨o,ho,h⟩)
 ·exact .inl h
 rcases List.mem_append.1 ho with ho|ho
 ·exact .inr ⟨o,ho,h⟩
 simp at ho;subst ho;exact absurd h.symm q
theorem QnZ {ts:List Lst} {c:Int} (h:(QaM ts c).isSome=true):c∈ts.map (·.cart):=by
 unfold QaM at h
 rw [Option.isSome_map,Option.isSome_iff_exists] at h
 obtain ⟨x,hx⟩:=h
 have h1:=List.find?_some hx
 exact List.mem_map.2 ⟨x,List.mem_of_find?_eq_some hx,QQ1 h1⟩
theorem QjQ {p:Pst} {a b:Vec} {n:Int} {e:Cen} (hok:Qdq p) (ha:Qbh p a=0) (hb:Qbh p b=0) (hab:vle a b=true) (he:e∈(Qah p a).ents) (hc:e.cart=n):n∈Qay (Qah p b):=by
 have hr:=(Qc4 (QdX ha).1).2
 have h1:=(QcH.1 (Qfu hok ha)).ent e he
 unfold Qjc at h1
 simp only [Bool.and_eq_true] at h1
 have h2:=h1.1.1.1.1
 rw [hc] at h2
 have ea:(Qah p a).ticks=QbT p.base.ticks (QaC p.ops a):=by unfold Qah;rw [if_pos ha];rfl
 have eb:(Qah p b).ticks=QbT p.base.ticks (QaC p.ops b):=by unfold Qah;rw [if_pos hb];rfl
 rw [Qi6 hok hb,eb]
 rw [ea,Qg1 hr.rt] at h2
 refine QnZ ((Qg1 hr.rt _).2 ?_)
 rcases h2 with h|⟨o,ho,h⟩
 ·exact .inl h
 have:=List.mem_filter.1 ho
 exact .inr ⟨o,List.mem_filter.2 ⟨this.1,Qh6 hab this.2⟩,h⟩
theorem QjF {p:Pst} {a:Vec} {n:Int} (h:(QaO p a n).lines≠[]∨(QaO p a n).out=true):∃ e∈(Qah p a).ents,e.cart=n:=by
 unfold QaO QaI at h
 split at h
 ·rcases h with h|h
  ·have h1:QeX (Qes (Qah p a) n)≠[]:=fun e=>h (by show (QeX _).map _=[];rw [e];rfl)
   obtain ⟨x,hx⟩:=List.exists_mem_of_ne_nil _ h1
   obtain ⟨e,he,_⟩:=List.mem_map.1 ((Qeu _).2 x |>.1 hx)
   have h2:=List.mem_filter.1 he
   have h3:=h2.2
   simp only [Bool.and_eq_true,decide_eq_true_eq] at h3
   exact ⟨e,h2.1,h3.1⟩
  obtain ⟨e,he,h2⟩:=List.any_eq_true.1 h
  simp only [Bool.and_eq_true,decide_eq_true_eq] at h2
  exact ⟨e,he,h2.1⟩
 rcases h with h|h
 ·exact absurd rfl h
 cases h
theorem Qh2 {p:Pst} {a b:Vec} {n:Int} (hok:Qdq p) (h:QbK p a b=0) (hs:((QaO p a n).lines≠[]∨(QaO p a n).out=true)∨((QaO p b n).lines≠[]∨(QaO p b n).out=true)):n∈Qay (Qah p b):=by
 obtain ⟨ha,hb,hab⟩:=Qf9 h
 rcases hs with hs|hs
 ·obtain ⟨e,he,hc⟩:=QjF hs;exact QjQ hok ha hb hab he hc
 obtain ⟨e,he,hc⟩:=QjF hs;exact QjQ hok hb hb (QjY b) he hc
theorem Qfp (p:Pst) (a:Vec) (n:Int):(QaO p a n).cart=n:=Qlb _ _ _
theorem Qmp {d:List Dif} {c:Dif}:(d.any fun x=>decide (x=c))=decide (c∈d):=by
 rw [Bool.eq_iff_iff,List.any_eq_true,decide_eq_true_iff]
 exact ⟨fun ⟨x,hx,e⟩=>by rw [← QQ1 e];exact hx,fun h=>⟨c,h,QQ3 rfl⟩⟩
theorem QfM {p:Pst} {a b:Vec} {c:Dif} (h:QbK p a b=0):c∈Qa6 p a b↔∃ m∈Qay (Qah p b),c∈QcX (QaO p a m) (QaO p b m):=by
 unfold Qa6;rw [if_pos h,List.mem_flatMap];rfl
theorem Qj5 {a b:Vw} {n i x y:Int}:(⟨n,i,false,x,y⟩:Dif)∈QcX a b↔(i∈unI a.lines b.lines/\n=b.cart/\x=qL a.lines i/\y=qL b.lines i/\¬x=y):=by
 unfold QcX
 rw [List.mem_append,List.mem_flatMap]
 constructor
 ·rintro (⟨j,hj,hm⟩|hm)
  ·unfold Qhc at hm
   split at hm
   ·cases hm
   rename_i hne
   simp only [List.mem_singleton,Dif.mk.injEq] at hm
   obtain ⟨h1,h2,_,h3,h4⟩:=hm
   subst h2
   exact ⟨hj,h1,h3,h4,by rw [h3,h4];exact hne⟩
  unfold QgG at hm
  split at hm
  ·cases hm
  simp at hm
 rintro ⟨h1,h2,h3,h4,h5⟩
 refine .inl ⟨i,h1,?_⟩
 unfold Qhc
 rw [if_neg (by rw [← h3,← h4];exact h5),List.mem_singleton,h2,h3,h4]
theorem Qky {a b:Vw} {n:Int}:(⟨n,0,true,QcF a.out,QcF b.out⟩:Dif)∈QcX a b↔(n=b.cart/\¬a.out=b.out):=by
 unfold QcX
 rw [List.mem_append,List.mem_flatMap]
 constructor
 ·rintro (⟨j,hj,hm⟩|hm)
  ·unfold Qhc at hm
   split at hm
   ·cases hm
   simp at hm
  unfold QgG at hm
  split at hm
  ·cases hm
  rename_i hne
  simp only [List.mem_singleton,Dif.mk.injEq] at hm
  exact ⟨hm.1,hne⟩
 rintro ⟨h1,h2⟩
 refine .inr ?_
 unfold QgG;rw [if_neg h2,h1];simp
theorem QjU {l:List Line} {n:Int} (h:¬qL l n=0):l≠[]/\∃ x∈l,x.item=n:=by
 have h1:∃ x∈l,x.item=n:=by
  false_or_by_contra
  rename_i h2
  exact h (QiW fun x hx e=>h2 ⟨x,hx,e⟩)
 obtain ⟨x,hx,e⟩:=h1
 exact ⟨fun e2=>(by rw [e2] at hx;cases hx),x,hx,e⟩
theorem Qia {p:Pst} {a b:Vec} {n i:Int} (hok:Qdq p) (h:QbK p a b=0):((Qa6 p a b).any fun x=>decide (x=⟨n,i,false,qL (Qas p a n).lines i,qL (Qas p b n).lines i⟩)) = !decide (qL (Qas p a n).lines i=qL (Qas p b n).lines i):=by
 obtain ⟨ha,hb,hab⟩:=Qf9 h
 rw [Qmp,QdA ha,QdA hb]
 by_cases q:qL (QaO p a n).lines i=qL (QaO p b n).lines i
 ·rw [QQ3 q,QQ4];· rfl
  intro hm
  obtain ⟨m,_,hm2⟩:=(QfM h).1 hm
  exact (Qj5.1 hm2).2.2.2.2 q
 rw [QQ4 q,QQ3];· rfl
 have h1:¬qL (QaO p a n).lines i=0∨¬qL (QaO p b n).lines i=0:=by omega
 have h2:i∈unI (QaO p a n).lines (QaO p b n).lines:=by
  unfold unI
  rw [(Qeu _).2,List.map_append,List.mem_append]
  rcases h1 with h1|h1
  ·obtain ⟨_,x,hx,e⟩:=QjU h1;exact .inl (List.mem_map.2 ⟨x,hx,e⟩)
  obtain ⟨_,x,hx,e⟩:=QjU h1;exact .inr (List.mem_map.2 ⟨x,hx,e⟩)
 have h3:n∈Qay (Qah p b):=Qh2 hok h (h1.imp (fun h=>.inl (QjU h).1) fun h=>.inl (QjU h).1)
 exact (QfM h).2 ⟨n,h3,Qj5.2 ⟨h2,(Qfp p b n).symm,rfl,rfl,q⟩⟩
theorem Qig {p:Pst} {a b:Vec} {n:Int} (hok:Qdq p) (h:QbK p a b=0):((Qa6 p a b).any fun x=>decide (x=⟨n,0,true,QcF (Qas p a n).out,QcF (Qas p b n).out⟩)) = !((Qas p a n).out == (Qas p b n).out):=by
 obtain ⟨ha,hb,hab⟩:=Qf9 h
 rw [Qmp,QdA ha,QdA hb]
 by_cases q:(QaO p a n).out=(QaO p b n).out
 ·rw [q,beq_self_eq_true,QQ4];· rfl
  intro hm
  obtain ⟨m,_,hm2⟩:=(QfM h).1 hm
  have hc:n=m:=by
   unfold QcX at hm2
   rcases List.mem_append.1 hm2 with hx|hx
   ·obtain ⟨j,_,hj⟩:=List.mem_flatMap.1 hx
    unfold Qhc at hj
    split at hj
    ·cases hj
    simp at hj
   unfold QgG at hx
   split at hx
   ·cases hx
   simp only [List.mem_singleton,Dif.mk.injEq] at hx
   rw [hx.1,Qfp]
  subst hc
  rw [← q] at hm2
  have hm3:(⟨n,0,true,QcF (QaO p a n).out,QcF (QaO p b n).out⟩:Dif)∈QcX (QaO p a n) (QaO p b n):=by rw [← q];exact hm2
  exact (Qky.1 hm3).2 q
 have hf:((QaO p a n).out == (QaO p b n).out)=false:=by simpa using q
 rw [hf,QQ3];· rfl
 have h1:(QaO p a n).out=true∨(QaO p b n).out=true:=by
  cases h2:(QaO p a n).out
  ·cases h3:(QaO p b n).out
   ·exact absurd (h2.trans h3.symm) q
   exact .inr rfl
  exact .inl rfl
 have h3:n∈Qay (Qah p b):=Qh2 hok h (h1.imp .inr .inr)
 exact (QfM h).2 ⟨n,h3,Qky.2 ⟨(Qfp p b n).symm,q⟩⟩
end Go.Vx
namespace Go.Proofs
open Go Go.Vx Go.RowKit
namespace Tt
theorem Qtn:En Tryz.prog 30:=Tryz.call30
theorem Qun:En Tryz.prog 31:=Tryz.call31
theorem QsW:En Tryz.prog 32:=Tryz.call32
end Tt
end Go.Proofs
namespace Go.Proofs
open Go Go.Vx Go.RowKit
namespace Tt
theorem Qep (w:World) (x:Int):Calls Tryz.prog 146 #[.int .u8 x] w (fun e w'=>e = .returned (.bool false)/\Own w no w' []):=by
 refine Qai (n:=6) Tryz.func146 rfl Tryz.ntmps146 rfl ?_
 have hs:=Own.start w
 refine Qag (Qab (Qaa (Qad (V:=.bool false) rfl (Qae (Qag (Qab (Qaa (Qac (V:=.int .u8 x) rfl (Qaa (Qac (V:=.int .u8 x) rfl (Qaa (Qcv rfl rfl (Qaa (Qad (V:=.bool (!decide (x=x))) rfl (Qae (Qaw ?_))))))))))))))))
 refine ⟨_,Qaq (V:=.bool (!decide (x=x))) Tryz.results146 rfl,(Zr hs ?_)⟩
 simp
theorem Qd3 (w:World) (x y:Int):Calls Tryz.prog 94 #[.int .u8 x,.int .u8 y] w (fun e w'=>e = .returned (.int .i64 (Qa0 x y))/\Own w no w' []):=by
 refine Qai (n:=20) Tryz.func94 rfl Tryz.ntmps94 rfl ?_
 have hs:=Own.start w
 refine Qag (Qab (Qaa (Qad (V:=I6 0) rfl (Qae (Qag (Qab (Qaa (Qac (V:=.int .u8 x) rfl (Qaa (Qat (vs:=[.int .u8 x]) (V:=.bool false) Qp8 rfl rfl ?hc hs fun w1 hs=>?_))))))))))
 case hc=>exact (Qep _ x)
 refine Qaa (Qad (V:=.bool false) rfl (Qae (Qag (Qab (Qaa (Qac (V:=.int .u8 y) rfl (Qaa (Qat (vs:=[.int .u8 y]) (V:=.bool false) Qp8 rfl rfl ?hc hs fun w2 hs=>?_))))))))
 case hc=>exact (Qep _ y)
 refine Qaa (Qad (V:=.bool false) rfl (Qae (Qag (Qag (Qab (Qaa (Qac (V:=.bool false) rfl (Qae (QbV rfl ?_)))))))))
 refine Qao (Qag (Qag (Qab (Qaa (Qac (V:=.bool false) rfl (Qae (QbV rfl ?_)))))))
 refine Qao (Qag (Qag (Qab (Qaa (Qac (V:=.int .u8 x) rfl (Qaa (Qac (V:=.int .u8 y) rfl (Qaa (Qa2 rfl rfl (Qae (Qam (t:=decide (x<y)) rfl (fun c3=>?_) (fun c3=>?_))))))))))))
 ·
  replace c3:=QQ1 c3
  refine Qag (Qab (Qaa (Qad (V:=I6 (-1)) rfl (Qae (Qaw ?_)))))
  refine ⟨_,Qaq (V:=I6 (-1)) Tryz.results94 rfl,(Zr hs ?_)⟩
  rw [QcV,if_pos c3]
 replace c3:=QQ2 c3
 refine Qao (Qag (Qag (Qab (Qaa (Qac (V:=.int .u8 x) rfl (Qaa (Qac (V:=.int .u8 y) rfl (Qaa (Qb2 rfl rfl (Qae (Qam (t:=decide (y<x)) rfl (fun c4=>?_) (fun c4=>?_))))))))))))
 ·
  replace c4:=QQ1 c4
  refine Qag (Qab (Qaa (Qad (V:=I6 1) rfl (Qae (Qaw ?_)))))
  refine ⟨_,Qaq (V:=I6 1) Tryz.results94 rfl,(Zr hs ?_)⟩
  rw [QcV,if_neg c3,if_pos c4]
 replace c4:=QQ2 c4
 refine Qao (Qag (Qab (Qaa (Qad (V:=I6 0) rfl (Qae (Qaw ?_))))))
 refine ⟨_,Qaq (V:=I6 0) Tryz.results94 rfl,(Zr hs ?_)⟩
 rw [QcV,if_neg c3,if_neg c4]
theorem Qd1 (w:World) (x:Int):Calls Tryz.prog 127 #[.int .u16 x] w (fun e w'=>e = .returned (.bool false)/\Own w no w' []):=by
 refine Qai (n:=6) Tryz.func127 rfl Tryz.ntmps127 rfl ?_
 have hs:=Own.start w
 refine Qag (Qab (Qaa (Qad (V:=.bool false) rfl (Qae (Qag (Qab (Qaa (Qac (V:=I7 x) rfl (Qaa (Qac (V:=I7 x) rfl (Qaa (Qcv rfl rfl (Qaa (Qad (V:=.bool (!decide (x=x))) rfl (Qae (Qaw ?_))))))))))))))))
 refine ⟨_,Qaq (V:=.bool (!decide (x=x))) Tryz.results127 rfl,(Zr hs ?_)⟩
 simp
theorem QcY (w:World) (x y:Int):Calls Tryz.prog 77 #[.int .u16 x,.int .u16 y] w (fun e w'=>e = .returned (.int .i64 (Qa0 x y))/\Own w no w' []):=by
 refine Qai (n:=20) Tryz.func77 rfl Tryz.ntmps77 rfl ?_
 have hs:=Own.start w
 refine Qag (Qab (Qaa (Qad (V:=I6 0) rfl (Qae (Qag (Qab (Qaa (Qac (V:=I7 x) rfl (Qaa (Qat (vs:=[I7 x]) (V:=.bool false) QnQ rfl rfl ?hc hs fun w1 hs=>?_))))))))))
 case hc=>exact (Qd1 _ x)
 refine Qaa (Qad (V:=.bool false) rfl (Qae (Qag (Qab (Qaa (Qac (V:=I7 y) rfl (Qaa (Qat (vs:=[I7 y]) (V:=.bool false) QnQ rfl rfl ?hc hs fun w2 hs=>?_))))))))
 case hc=>exact (Qd1 _ y)
 refine Qaa (Qad (V:=.bool false) rfl (Qae (Qag (Qag (Qab (Qaa (Qac (V:=.bool false) rfl (Qae (QbV rfl ?_)))))))))
 refine Qao (Qag (Qag (Qab (Qaa (Qac (V:=.bool false) rfl (Qae (QbV rfl ?_)))))))
 refine Qao (Qag (Qag (Qab (Qaa (Qac (V:=I7 x) rfl (Qaa (Qac (V:=I7 y) rfl (Qaa (Qa2 rfl rfl (Qae (Qam (t:=decide (x<y)) rfl (fun c3=>?_) (fun c3=>?_))))))))))))
 ·
  replace c3:=QQ1 c3
  refine Qag (Qab (Qaa (Qad (V:=I6 (-1)) rfl (Qae (Qaw ?_)))))
  refine ⟨_,Qaq (V:=I6 (-1)) Tryz.results77 rfl,(Zr hs ?_)⟩
  rw [QcV,if_pos c3]
 replace c3:=QQ2 c3
 refine Qao (Qag (Qag (Qab (Qaa (Qac (V:=I7 x) rfl (Qaa (Qac (V:=I7 y) rfl (Qaa (Qb2 rfl rfl (Qae (Qam (t:=decide (y<x)) rfl (fun c4=>?_) (fun c4=>?_))))))))))))
 ·
  replace c4:=QQ1 c4
  refine Qag (Qab (Qaa (Qad (V:=I6 1) rfl (Qae (Qaw ?_)))))
  refine ⟨_,Qaq (V:=I6 1) Tryz.results77 rfl,(Zr hs ?_)⟩
  rw [QcV,if_neg c3,if_pos c4]
 replace c4:=QQ2 c4
 refine Qao (Qag (Qab (Qaa (Qad (V:=I6 0) rfl (Qae (Qaw ?_))))))
 refine ⟨_,Qaq (V:=I6 0) Tryz.results77 rfl,(Zr hs ?_)⟩
 rw [QcV,if_neg c3,if_neg c4]
theorem Qd2 (w:World) (x:Int):Calls Tryz.prog 147 #[.int .u32 x] w (fun e w'=>e = .returned (.bool false)/\Own w no w' []):=by
 refine Qai (n:=6) Tryz.func147 rfl Tryz.ntmps147 rfl ?_
 have hs:=Own.start w
 refine Qag (Qab (Qaa (Qad (V:=.bool false) rfl (Qae (Qag (Qab (Qaa (Qac (V:=.int .u32 x) rfl (Qaa (Qac (V:=.int .u32 x) rfl (Qaa (Qcv rfl rfl (Qaa (Qad (V:=.bool (!decide (x=x))) rfl (Qae (Qaw ?_))))))))))))))))
 refine ⟨_,Qaq (V:=.bool (!decide (x=x))) Tryz.results147 rfl,(Zr hs ?_)⟩
 simp
theorem QdN (w:World) (x y:Int):Calls Tryz.prog 95 #[.int .u32 x,.int .u32 y] w (fun e w'=>e = .returned (.int .i64 (Qa0 x y))/\Own w no w' []):=by
 refine Qai (n:=20) Tryz.func95 rfl Tryz.ntmps95 rfl ?_
 have hs:=Own.start w
 refine Qag (Qab (Qaa (Qad (V:=I6 0) rfl (Qae (Qag (Qab (Qaa (Qac (V:=.int .u32 x) rfl (Qaa (Qat (vs:=[.int .u32 x]) (V:=.bool false) QqE rfl rfl ?hc hs fun w1 hs=>?_))))))))))
 case hc=>exact (Qd2 _ x)
 refine Qaa (Qad (V:=.bool false) rfl (Qae (Qag (Qab (Qaa (Qac (V:=.int .u32 y) rfl (Qaa (Qat (vs:=[.int .u32 y]) (V:=.bool false) QqE rfl rfl ?hc hs fun w2 hs=>?_))))))))
 case hc=>exact (Qd2 _ y)
 refine Qaa (Qad (V:=.bool false) rfl (Qae (Qag (Qag (Qab (Qaa (Qac (V:=.bool false) rfl (Qae (QbV rfl ?_)))))))))
 refine Qao (Qag (Qag (Qab (Qaa (Qac (V:=.bool false) rfl (Qae (QbV rfl ?_)))))))
 refine Qao (Qag (Qag (Qab (Qaa (Qac (V:=.int .u32 x) rfl (Qaa (Qac (V:=.int .u32 y) rfl (Qaa (Qa2 rfl rfl (Qae (Qam (t:=decide (x<y)) rfl (fun c3=>?_) (fun c3=>?_))))))))))))
 ·
  replace c3:=QQ1 c3
  refine Qag (Qab (Qaa (Qad (V:=I6 (-1)) rfl (Qae (Qaw ?_)))))
  refine ⟨_,Qaq (V:=I6 (-1)) Tryz.results95 rfl,(Zr hs ?_)⟩
  rw [QcV,if_pos c3]
 replace c3:=QQ2 c3
 refine Qao (Qag (Qag (Qab (Qaa (Qac (V:=.int .u32 x) rfl (Qaa (Qac (V:=.int .u32 y) rfl (Qaa (Qb2 rfl rfl (Qae (Qam (t:=decide (y<x)) rfl (fun c4=>?_) (fun c4=>?_))))))))))))
 ·
  replace c4:=QQ1 c4
  refine Qag (Qab (Qaa (Qad (V:=I6 1) rfl (Qae (Qaw ?_)))))
  refine ⟨_,Qaq (V:=I6 1) Tryz.results95 rfl,(Zr hs ?_)⟩
  rw [QcV,if_neg c3,if_pos c4]
 replace c4:=QQ2 c4
 refine Qao (Qag (Qab (Qaa (Qad (V:=I6 0) rfl (Qae (Qaw ?_))))))
 refine ⟨_,Qaq (V:=I6 0) Tryz.results95 rfl,(Zr hs ?_)⟩
 rw [QcV,if_neg c3,if_neg c4]
theorem QdV (w:World) (x:Int):Calls Tryz.prog 171 #[.int .u64 x] w (fun e w'=>e = .returned (.bool false)/\Own w no w' []):=by
 refine Qai (n:=6) Tryz.func171 rfl Tryz.ntmps171 rfl ?_
 have hs:=Own.start w
 refine Qag (Qab (Qaa (Qad (V:=.bool false) rfl (Qae (Qag (Qab (Qaa (Qac (V:=.int .u64 x) rfl (Qaa (Qac (V:=.int .u64 x) rfl (Qaa (Qcv rfl rfl (Qaa (Qad (V:=.bool (!decide (x=x))) rfl (Qae (Qaw ?_))))))))))))))))
 refine ⟨_,Qaq (V:=.bool (!decide (x=x))) Tryz.results171 rfl,(Zr hs ?_)⟩
 simp
theorem QhG (w:World) (x y:Int):Calls Tryz.prog 158 #[.int .u64 x,.int .u64 y] w (fun e w'=>e = .returned (.int .i64 (Qa0 x y))/\Own w no w' []):=by
 refine Qai (n:=20) Tryz.func158 rfl Tryz.ntmps158 rfl ?_
 have hs:=Own.start w
 refine Qag (Qab (Qaa (Qad (V:=I6 0) rfl (Qae (Qag (Qab (Qaa (Qac (V:=.int .u64 x) rfl (Qaa (Qat (vs:=[.int .u64 x]) (V:=.bool false) QqG rfl rfl ?hc hs fun w1 hs=>?_))))))))))
 case hc=>exact (QdV _ x)
 refine Qaa (Qad (V:=.bool false) rfl (Qae (Qag (Qab (Qaa (Qac (V:=.int .u64 y) rfl (Qaa (Qat (vs:=[.int .u64 y]) (V:=.bool false) QqG rfl rfl ?hc hs fun w2 hs=>?_))))))))
 case hc=>exact (QdV _ y)
 refine Qaa (Qad (V:=.bool false) rfl (Qae (Qag (Qag (Qab (Qaa (Qac (V:=.bool false) rfl (Qae (QbV rfl ?_)))))))))
 refine Qao (Qag (Qag (Qab (Qaa (Qac (V:=.bool false) rfl (Qae (QbV rfl ?_)))))))
 refine Qao (Qag (Qag (Qab (Qaa (Qac (V:=.int .u64 x) rfl (Qaa (Qac (V:=.int .u64 y) rfl (Qaa (Qa2 rfl rfl (Qae (Qam (t:=decide (x<y)) rfl (fun c3=>?_) (fun c3=>?_))))))))))))
 ·
  replace c3:=QQ1 c3
  refine Qag (Qab (Qaa (Qad (V:=I6 (-1)) rfl (Qae (Qaw ?_)))))
  refine ⟨_,Qaq (V:=I6 (-1)) Tryz.results158 rfl,(Zr hs ?_)⟩
  rw [QcV,if_pos c3]
 replace c3:=QQ2 c3
 refine Qao (Qag (Qag (Qab (Qaa (Qac (V:=.int .u64 x) rfl (Qaa (Qac (V:=.int .u64 y) rfl (Qaa (Qb2 rfl rfl (Qae (Qam (t:=decide (y<x)) rfl (fun c4=>?_) (fun c4=>?_))))))))))))
 ·
  replace c4:=QQ1 c4
  refine Qag (Qab (Qaa (Qad (V:=I6 1) rfl (Qae (Qaw ?_)))))
  refine ⟨_,Qaq (V:=I6 1) Tryz.results158 rfl,(Zr hs ?_)⟩
  rw [QcV,if_neg c3,if_pos c4]
 replace c4:=QQ2 c4
 refine Qao (Qag (Qab (Qaa (Qad (V:=I6 0) rfl (Qae (Qaw ?_))))))
 refine ⟨_,Qaq (V:=I6 0) Tryz.results158 rfl,(Zr hs ?_)⟩
 rw [QcV,if_neg c3,if_neg c4]
theorem QqS (w:World) (a:Option Addr) (c:Nat) (l:List Int) (hr:Rd w (.slice a l.length c) 1 (l.map (ic .i64))):Calls Tryz.prog 93 #[.slice a l.length c] w (fun e w'=>e = .returned (.int .i64 (orI l))/\Own w no w' []):=by
 refine Qai (n:=18) Tryz.func93 rfl Tryz.ntmps93 rfl ?_
 have hs:=Own.start w
 have hn:=hr.sml
 refine Qag (Qab (Qaa (Qad (V:=I6 0) rfl (Qae (Qag (Qab (Qaa (Qad (V:=I6 0) rfl (Qae (Qag (Qag (Qab (Qaa (Qac (V:=.slice a l.length c) rfl (Qaa (Qa3 (n:=l.length) Qqv (Rd.own' hr hs) (by simp) rfl (Qaa (Qac (V:=I6 0) rfl (Qae (Qan (QaD (fun J μ J' w'=>∃ (Jo:Env) (k:Nat),J'=upd (mix ([2,5]++sq 8 9) Jo J) 8 (I6 (k:Int))/\(k<=l.length)/\(∀ j:Nat,j<k->gd l j=0)/\μ=l.length-k/\Own w no w' []) ?_ ?_)))))))))))))))))))))
 ·exact ⟨_,_,0,Qal (Qap (ds:=([2,5]++sq 8 9)) (Agr.refl _ _)) rfl,(by omega),(fun j hj=>absurd hj (Nat.not_lt_zero j)),rfl,hs⟩
 rintro μ J' w1 ⟨Jo,k,rfl,hk,h0,rfl,hs⟩
 refine Qag (Qab (Qaa (Qa2 rfl rfl (Qae (Qag (Qam (t:=decide ((k:Int)<((l.length:Nat):Int))) rfl (fun c2=>?_) (fun c2=>?_)))))))
 ·
  replace c2:=QQ1 c2
  refine Qao (Qag (Qan (Qag (Qab (Qaa (Qax Qqv Qrz.1 (Rd.own' hr hs) rfl rfl (by omega) (by rw [QQ6];omega) (Qaa (QaW (j:=0) (V:=I6 (gd l k)) k Qrz (Rd.own' hr hs) (Qba (by omega)) rfl rfl (by omega) (Qaa (Qad (V:=I6 (gd l k)) rfl (Qae (Qag (Qab (Qaa (Qac (V:=I6 (gd l k)) rfl (Qaa (Qac (V:=I6 0) rfl (Qaa (Qcv rfl rfl (Qae (Qam (t:=!decide (gd l k=0)) rfl (fun c3=>?_) (fun c3=>?_))))))))))))))))))))))
  ·
   replace c3:=Qby c3
   replace c3:=QQ2 c3
   refine Qag (Qab (Qaa (Qac (V:=I6 (gd l k)) rfl (Qaa (Qad (V:=I6 (gd l k)) rfl (Qae (Qaw ?_)))))))
   refine ⟨_,Qaq (V:=I6 (gd l k)) Tryz.results93 rfl,(Zr hs ?_)⟩
   exact congrArg (Value.int IntKind.i64) (Qsj (by omega) h0 c3).symm
  replace c3:=Qbu c3
  replace c3:=QQ1 c3
  refine Qao (Qab (Qaa (QaF (a:=(k:Int)) (b:=1) (c:=(k:Int)+1) rfl rfl (QbE (by omega) (by omega)) (Qaa (Qac (V:=I6 ((k:Int)+1)) rfl (Qae ?_))))))
  refine ⟨_,?_,_,k+1,Qal (Qap (ds:=([2,5]++sq 8 9)) (by repeat (first|exact Agr.refl _ _|refine Agr.upd ?_ rfl|refine Agr.mix ?_ rfl))) rfl,(by omega),(QrF h0 c3),rfl,hs.take 0⟩
  omega
 replace c2:=QQ2 c2
 refine QaJ (Qag (Qab (Qaa (Qac (V:=I6 0) rfl (Qaa (Qad (V:=I6 0) rfl (Qae (Qaw ?_))))))))
 refine ⟨_,Qaq (V:=I6 0) Tryz.results93 rfl,(Zr hs ?_)⟩
 exact congrArg (Value.int IntKind.i64) (QtC fun j hj=>h0 j (by omega)).symm
end Tt
end Go.Proofs
namespace Go.Proofs
open Go Go.Vx Go.RowKit
namespace Tt
theorem QiC (w:World) (a:Option Addr) (c:Nat) (l:List Cen) (hN:l.length*25<=140737488355328) (hr:Rd w (.slice a l.length c) 7 (l.map cec)):Calls Tryz.prog 39 #[.slice a l.length c] w (fun e w'=>∃ x:Option Addr × Nat,e = .returned (.slice x.1 (l).length x.2)/\Own w no w' [row (.slice x.1 (l).length x.2) ((l).map cec) 106 7]/\True):=by
 refine Qai (n:=8) Tryz.func39 rfl Tryz.ntmps39 rfl ?_
 have hs:=Own.start w
 have hn:=hr.sml
 refine Qag (Qab (Qaa (Qad (V:=.slice none 0 0) rfl (Qae (Qag (Qag (Qab (Qaa (Qac (V:=.slice a l.length c) rfl (Qaa (QsE QcW rfl rfl (Qae (Qam (t:=a.isNone) rfl (fun c1=>?_) (fun c1=>?_))))))))))))))
 ·
  refine Qag (Qab (Qaa (Qad (V:=.slice none 0 0) rfl (Qae (Qaw ?_)))))
  refine ⟨_,Qaq (V:=.slice none 0 0) Tryz.results39 rfl,?_⟩
  have hl0:=hr.isN c1
  subst hl0
  exact ⟨(none,0),rfl,(hs.take 0).more _ (Qbd _ _ _ _),trivial⟩
 refine Qao (Qag (Qab (Qaa (QhQ (vals:=[]) (ls:=List.map cec ([]:List Cen)) QeL rfl rfl rfl (Qbi (enc:=cec) (fun _=>rfl) _) (QaV Qbj _) (QQ8 rfl) hs fun b2 w3 hs=>(Qaa (Qac (V:=.slice a l.length c) rfl (Qaa (Qdi (ls':=l.map cec) (n:=l.length) QeL hs 0 rfl rfl rfl (Rd.own' hr hs) (QaV Qbj _) (by simp only [QQ6,QQ7,List.length_cons,List.length_nil];omega) (by simp) (by simp) fun a4 c4 w5 hs=>(Qaa (Qad (V:=.slice a4 l.length c4) rfl (Qae (Qaw ?_))))))))))))
 refine ⟨_,Qaq (V:=.slice a4 l.length c4) Tryz.results39 rfl,?_⟩
 exact ⟨(a4,c4),rfl,hs.only 0 rfl,trivial⟩
theorem QmG (w:World) (a:Option Addr) (c:Nat) (l:List Lst) (hN:l.length*9<=140737488355328) (hr:Rd w (.slice a l.length c) 2 (l.map lsc)):Calls Tryz.prog 153 #[.slice a l.length c] w (fun e w'=>∃ x:Option Addr × Nat,e = .returned (.slice x.1 (l).length x.2)/\Own w no w' [row (.slice x.1 (l).length x.2) ((l).map lsc) 102 2]/\True):=by
 refine Qai (n:=8) Tryz.func153 rfl Tryz.ntmps153 rfl ?_
 have hs:=Own.start w
 have hn:=hr.sml
 refine Qag (Qab (Qaa (Qad (V:=.slice none 0 0) rfl (Qae (Qag (Qag (Qab (Qaa (Qac (V:=.slice a l.length c) rfl (Qaa (QsE QdP rfl rfl (Qae (Qam (t:=a.isNone) rfl (fun c1=>?_) (fun c1=>?_))))))))))))))
 ·
  refine Qag (Qab (Qaa (Qad (V:=.slice none 0 0) rfl (Qae (Qaw ?_)))))
  refine ⟨_,Qaq (V:=.slice none 0 0) Tryz.results153 rfl,?_⟩
  have hl0:=hr.isN c1
  subst hl0
  exact ⟨(none,0),rfl,(hs.take 0).more _ (Qbd _ _ _ _),trivial⟩
 refine Qao (Qag (Qab (Qaa (QhQ (vals:=[]) (ls:=List.map lsc ([]:List Lst)) Qgx rfl rfl rfl (Qbi (enc:=lsc) (fun _=>rfl) _) (QaV Qcf _) (QQ8 rfl) hs fun b2 w3 hs=>(Qaa (Qac (V:=.slice a l.length c) rfl (Qaa (Qdi (ls':=l.map lsc) (n:=l.length) Qgx hs 0 rfl rfl rfl (Rd.own' hr hs) (QaV Qcf _) (by simp only [QQ6,QQ7,List.length_cons,List.length_nil];omega) (by simp) (by simp) fun a4 c4 w5 hs=>(Qaa (Qad (V:=.slice a4 l.length c4) rfl (Qae (Qaw ?_))))))))))))
 refine ⟨_,Qaq (V:=.slice a4 l.length c4) Tryz.results153 rfl,?_⟩
 exact ⟨(a4,c4),rfl,hs.only 0 rfl,trivial⟩
theorem Qmv (w:World) (a:Option Addr) (c:Nat) (l:List Cen) (t:Cen) (hsmall:l.length<=4611686018427387904) (g:Nat) (hg:En Tryz.prog g) (cf:Cen->Int) (hcmp:∀ (w:World) (x:Cen),Calls Tryz.prog g #[.agg (cec x).toArray,.agg (cec t).toArray] w (fun e w'=>e = .returned (.int .i64 (cf x))/\Own w no w' [])) (hm:Qno (fun x=>decide (cf x<0)) l) (hr:Rd w (.slice a l.length c) 7 (l.map cec)):Calls Tryz.prog 119 #[.slice a l.length c,.agg (cec t).toArray,.func (.func g) #[] #[]] w (fun e w'=>e = .returned (.tuple #[.int .i64 ((Qcj (fun x=>decide (cf x<0)) l:Nat):Int),.bool (decide (Qcj (fun x=>decide (cf x<0)) l<l.length)&&decide (cf (gd l (Qcj (fun x=>decide (cf x<0)) l))=0))])/\Own w no w' []):=by
 refine Qai (n:=49) Tryz.func119 rfl Tryz.ntmps119 rfl ?_
 have hs:=Own.start w
 have hn:=hr.sml
 have hn2:l.length<=4611686018427387904:=hsmall
 refine Qag (Qab (Qaa (Qa4 (V:=.agg (cec t).toArray) (cs:=cec t) rfl rfl hs fun b1 w2 hs=>(Qaa (Qad (V:=I6 0) rfl (Qaa (Qad (V:=.bool false) rfl (Qae (Qag (Qab (Qaa (Qac (V:=.slice a l.length c) rfl (Qaa (Qa3 (n:=l.length) QbC (Rd.own' hr hs) (by simp) rfl (Qaa (Qad (V:=I6 ((l.length:Nat):Int)) rfl (Qae (Qag (Qab (Qaa (Qac (V:=I6 ((l.length:Nat):Int)) rfl (Qaa (Qad (V:=I6 0) rfl (Qaa (Qad (V:=I6 ((l.length:Nat):Int)) rfl (Qae (Qag (Qan (QaD (fun J μ J' w'=>∃ (Jo:Env) (i:Nat) (j:Nat),J'=upd (upd (mix ([9,10,11]++sq 15 20) Jo J) 9 (I6 (i:Int))) 10 (I6 (j:Int))/\(i<=Qcj (fun x=>decide (cf x<0)) l)/\(Qcj (fun x=>decide (cf x<0)) l<=j)/\(j<=l.length)/\μ=j-i/\Own w no w' [blk b1 (cec t) 106]) ?_ ?_)))))))))))))))))))))))))))))
 ·exact ⟨_,_,0,l.length,Qal (Qal (Qap (ds:=([9,10,11]++sq 15 20)) (Agr.refl _ _)) rfl) rfl,(Nat.zero_le _),QfI,(Nat.le_refl _),rfl,hs⟩
 rintro μ J' w3 ⟨Jo,i,j,rfl,hip,hpj,hjl,rfl,hs⟩
 refine Qag (Qag (Qab (Qaa (Qac (V:=I6 (i:Int)) rfl (Qaa (Qac (V:=I6 (j:Int)) rfl (Qaa (Qa2 rfl rfl (Qae (Qam (t:=decide ((i:Int)<(j:Int))) rfl (fun c4=>?_) (fun c4=>?_)))))))))))
 ·
  replace c4:=QQ1 c4
  refine Qao (Qan (Qag (Qab (Qaa (Qac (V:=I6 (i:Int)) rfl (Qaa (Qac (V:=I6 (j:Int)) rfl (Qaa (QaF (a:=(i:Int)) (b:=(j:Int)) (c:=((i+j:Nat):Int)) rfl rfl (Qak (by omega) (by omega)) (Qaa (Qcl QhS Qdm rfl (QdO (by omega) (by omega)) (Qaa (Qg8 rfl rfl (Qaa (Qcl Qdm QhS rfl (QbE (by omega) (by omega)) (Qaa (Qad (V:=I6 (((i+j)/2:Nat):Int)) rfl (Qae (Qag (QaH HM [some 24,some 25,some 26,some 27,some 28,some 29,some 30,some 31] [] [0,0,0,6,14,0,63,127] [pv (.func (.func g) #[] #[]),pv (.slice a l.length c),pv (I6 (((i+j)/2:Nat):Int)),pv (.pointer (some ⟨bkS (.slice a l.length c),ofS (.slice a l.length c)+(((i+j)/2:Nat):Int).toNat*7,none⟩)),pv (.agg (cec (gd l ((i+j)/2))).toArray),pv (.agg (cec t).toArray),pv (I6 (cf (gd l ((i+j)/2)))),pv (.bool (decide (cf (gd l ((i+j)/2))<0)))] (fun _ _=>_) [7] (by kernel_rfl) hs ⟨?_,?_,?_,?_,?_,?_,?_,?_,trivial⟩ ?_))))))))))))))))))))
  ·exact oa [] fun D J w hs=>Qac (V:=.func (.func g) #[] #[]) rfl (Zz hs)
  ·exact oa [] fun D J w hs=>Qac (V:=.slice a l.length c) rfl (Zz hs)
  ·exact oa [] fun D J w hs=>Qac (V:=.int .i64 (((i+j)/2:Nat):Int)) rfl (Zz hs)
  ·exact oa [1,2] fun D J w hs=>Qax QbC QaB.1 (Rd.own' hr hs) rfl rfl (by omega) (by rw [QQ6];omega) (Zz hs)
  ·exact oa [3] fun D J w hs=>Qbb (j:=0) (vs:=cec (gd l ((i+j)/2))) ((i+j)/2) QaB (Rd.own' hr hs) (Qba (by omega)) rfl rfl rfl (by omega) (Zz hs)
  ·exact oa [] fun D J w hs=>QaL (cs:=cec t) QaB hs 0 rfl rfl rfl (Zz hs)
  ·exact oa [0,4,5] fun D J w hs=>Qfo (vs:=[.agg (cec (gd l ((i+j)/2))).toArray,.agg (cec t).toArray]) (cs:=[]) (V:=.int .i64 (cf (gd l ((i+j)/2)))) hg rfl rfl (hcmp _ (gd l ((i+j)/2))) hs fun _ hs=>Zz hs
  ·exact oa [6] fun D J w hs=>Qa2 rfl rfl (Zz hs)
  rintro J1 w6 J2 hJ hs
  replace hJ:J2=upd (mix (sq 24 8) J1 _) 31 (.bool (decide (cf (gd l ((i+j)/2))<0))):=hJ
  subst hJ
  refine Qam (t:=decide (cf (gd l ((i+j)/2))<0)) rfl (fun c7=>?_) (fun c7=>?_)
  ·
   replace c7:=QQ1 c7
   refine Qab (Qaa (Qac (V:=I6 (((i+j)/2:Nat):Int)) rfl (Qaa (QaF (a:=(((i+j)/2:Nat):Int)) (b:=1) (c:=((((i+j)/2)+1:Nat):Int)) rfl rfl (Qak (by omega) (by omega)) (Qaa (Qad (V:=I6 ((((i+j)/2)+1:Nat):Int)) rfl (Qae ?_)))))))
   refine ⟨_,?_,_,((i+j)/2)+1,j,Qal (Qal (Qap (ds:=([9,10,11]++sq 15 20)) (by repeat (first|exact Agr.refl _ _|refine Agr.upd ?_ rfl|refine Agr.mix ?_ rfl))) rfl) rfl,(by have:=QnK (f:=(fun x=>decide (cf x<0))) hm (by omega) (QQ3 c7);omega),(by omega),(by omega),rfl,hs.take 1⟩
   omega
  replace c7:=QQ2 c7
  refine Qab (Qaa (Qac (V:=I6 (((i+j)/2:Nat):Int)) rfl (Qaa (Qad (V:=I6 (((i+j)/2:Nat):Int)) rfl (Qae ?_)))))
  refine ⟨_,?_,_,i,(i+j)/2,Qal (Qal (Qap (ds:=([9,10,11]++sq 15 20)) (by repeat (first|exact Agr.refl _ _|refine Agr.upd ?_ rfl|refine Agr.mix ?_ rfl))) rfl) rfl,(by omega),(by have:=Qhv (f:=(fun x=>decide (cf x<0))) (l:=l) (QQ4 c7);omega),(by omega),rfl,hs.take 1⟩
  omega
 replace c4:=QQ2 c4
 refine QaJ (Qag ?_)
 have hij:i=j:=by omega
 refine QaH HM [some 35,some 36,some 37,some 38,some 39,some 40,some 41,some 42,some 43,some 44,some 45,some 46,some 47,some 48,some 6,some 7] [] [0,0,0,6,14,30,30,30,222,478,30,2046,4094,8190,4095,32767] [pv (I6 (i:Int)),pv (I6 (i:Int)),pv (I6 ((l.length:Nat):Int)),pv (.bool (decide ((i:Int)<((l.length:Nat):Int)))),pv (.bool (decide ((i:Int)<((l.length:Nat):Int)))),pg ((decide ((i:Int)<((l.length:Nat):Int))) == true) (.func (.func g) #[] #[]),pg ((decide ((i:Int)<((l.length:Nat):Int))) == true) (.slice a l.length c),pg ((decide ((i:Int)<((l.length:Nat):Int))) == true) (I6 (i:Int)),pg ((decide ((i:Int)<((l.length:Nat):Int))) == true) (.pointer (some ⟨bkS (.slice a l.length c),ofS (.slice a l.length c)+(i:Int).toNat*7,none⟩)),pg ((decide ((i:Int)<((l.length:Nat):Int))) == true) (.agg (cec (gd l i)).toArray),pg ((decide ((i:Int)<((l.length:Nat):Int))) == true) (.agg (cec t).toArray),pg ((decide ((i:Int)<((l.length:Nat):Int))) == true) (I6 (cf (gd l i))),pg ((decide ((i:Int)<((l.length:Nat):Int))) == true) (.bool (decide (cf (gd l i)=0))),pv (.bool ((decide ((i:Int)<((l.length:Nat):Int)))&&(decide (cf (gd l i)=0)))),pv (I6 (i:Int)),pv (.bool ((decide ((i:Int)<((l.length:Nat):Int)))&&(decide (cf (gd l i)=0))))] (fun _ _=>_) [15,14] (by kernel_rfl) hs ⟨?_,?_,?_,?_,?_,?_,?_,?_,?_,?_,?_,?_,?_,?_,?_,?_,trivial⟩ ?_
 ·exact oa [] fun D J w hs=>Qac (V:=.int .i64 (i:Int)) rfl (Zz hs)
 ·exact oa [] fun D J w hs=>Qac (V:=.int .i64 (i:Int)) rfl (Zz hs)
 ·exact oa [] fun D J w hs=>Qac (V:=.int .i64 ((l.length:Nat):Int)) rfl (Zz hs)
 ·exact oa [1,2] fun D J w hs=>Qa2 rfl rfl (Zz hs)
 ·exact oa [3] fun D J w hs=>Qac (V:=.bool (decide ((i:Int)<((l.length:Nat):Int)))) rfl (Zz hs)
 ·exact og [4] fun D J w hG hs=>Qac (V:=.func (.func g) #[] #[]) rfl (Zz hs)
 ·exact og [4] fun D J w hG hs=>Qac (V:=.slice a l.length c) rfl (Zz hs)
 ·exact og [4] fun D J w hG hs=>Qac (V:=.int .i64 (i:Int)) rfl (Zz hs)
 ·refine oy [4,6,7] [6,7] fun D J w hG hs=>?_
  have hgd:=QQ1 (eq_of_beq (hG))
  exact Qax QbC QaB.1 (Rd.own' hr hs) rfl rfl (by omega) (by rw [QQ6];omega) (Zz hs)
 ·refine oy [4,8] [8] fun D J w hG hs=>?_
  have hgd:=QQ1 (eq_of_beq (hG))
  exact Qbb (j:=0) (vs:=cec (gd l i)) i QaB (Rd.own' hr hs) (Qba (by omega)) rfl rfl rfl (by omega) (Zz hs)
 ·exact og [4] fun D J w hG hs=>QaL (cs:=cec t) QaB hs 0 rfl rfl rfl (Zz hs)
 ·exact oy [4,5,9,10] [5,9,10] fun D J w hG hs=>Qfo (vs:=[.agg (cec (gd l i)).toArray,.agg (cec t).toArray]) (cs:=[]) (V:=.int .i64 (cf (gd l i))) hg rfl rfl (hcmp _ (gd l i)) hs fun _ hs=>Zz hs
 ·exact oy [4,11] [11] fun D J w hG hs=>QaZ rfl rfl (Zz hs)
 ·exact oa [4,12] fun D J w hs=>Qbn (h':=decide (cf (gd l i)=0)) rfl rfl rfl (Zz hs)
 ·exact oa [0] fun D J w hs=>Qad (V:=.int .i64 (i:Int)) rfl (Zz hs)
 ·exact oa [13] fun D J w hs=>Qad (V:=.bool ((decide ((i:Int)<((l.length:Nat):Int)))&&(decide (cf (gd l i)=0)))) rfl (Zz hs)
 rintro J1 w9 J2 hJ hs
 replace hJ:J2=upd (upd (mix (sq 35 14++[6,7]) J1 _) 6 (I6 (i:Int))) 7 (.bool ((decide ((i:Int)<((l.length:Nat):Int)))&&(decide (cf (gd l i)=0)))):=hJ
 subst hJ
 refine Qaw ?_
 refine ⟨_,QbI (U:=I6 (i:Int)) (V:=.bool ((decide ((i:Int)<((l.length:Nat):Int)))&&(decide (cf (gd l i)=0)))) Tryz.results119 rfl rfl,(Zr hs ?_)⟩
 have hip2:i=Qcj (fun x=>decide (cf x<0)) l:=by omega
 rw [← hip2]
 congr 3
 by_cases h:i<l.length<;>simp [h]
theorem Qmo (w:World) (a:Option Addr) (c:Nat) (l:List Lst) (t:Int) (hsmall:l.length<=4611686018427387904) (g:Nat) (hg:En Tryz.prog g) (cf:Lst->Int) (hcmp:∀ (w:World) (x:Lst),Calls Tryz.prog g #[.agg (lsc x).toArray,.int .u16 t] w (fun e w'=>e = .returned (.int .i64 (cf x))/\Own w no w' [])) (hm:Qno (fun x=>decide (cf x<0)) l) (hr:Rd w (.slice a l.length c) 2 (l.map lsc)):Calls Tryz.prog 124 #[.slice a l.length c,.int .u16 t,.func (.func g) #[] #[]] w (fun e w'=>e = .returned (.tuple #[.int .i64 ((Qcj (fun x=>decide (cf x<0)) l:Nat):Int),.bool (decide (Qcj (fun x=>decide (cf x<0)) l<l.length)&&decide (cf (gd l (Qcj (fun x=>decide (cf x<0)) l))=0))])/\Own w no w' []):=by
 refine Qai (n:=49) Tryz.func124 rfl Tryz.ntmps124 rfl ?_
 have hs:=Own.start w
 have hn:=hr.sml
 have hn2:l.length<=4611686018427387904:=hsmall
 refine Qag (Qab (Qaa (Qad (V:=I6 0) rfl (Qaa (Qad (V:=.bool false) rfl (Qae (Qag (Qab (Qaa (Qac (V:=.slice a l.length c) rfl (Qaa (Qa3 (n:=l.length) Qem (Rd.own' hr hs) (by simp) rfl (Qaa (Qad (V:=I6 ((l.length:Nat):Int)) rfl (Qae (Qag (Qab (Qaa (Qac (V:=I6 ((l.length:Nat):Int)) rfl (Qaa (Qad (V:=I6 0) rfl (Qaa (Qad (V:=I6 ((l.length:Nat):Int)) rfl (Qae (Qag (Qan (QaD (fun J μ J' w'=>∃ (Jo:Env) (i:Nat) (j:Nat),J'=upd (upd (mix ([9,10,11]++sq 15 20) Jo J) 9 (I6 (i:Int))) 10 (I6 (j:Int))/\(i<=Qcj (fun x=>decide (cf x<0)) l)/\(Qcj (fun x=>decide (cf x<0)) l<=j)/\(j<=l.length)/\μ=j-i/\Own w no w' []) ?_ ?_)))))))))))))))))))))))))))
 ·exact ⟨_,_,0,l.length,Qal (Qal (Qap (ds:=([9,10,11]++sq 15 20)) (Agr.refl _ _)) rfl) rfl,(Nat.zero_le _),QfI,(Nat.le_refl _),rfl,hs⟩
 rintro μ J' w1 ⟨Jo,i,j,rfl,hip,hpj,hjl,rfl,hs⟩
 refine Qag (Qag (Qab (Qaa (Qac (V:=I6 (i:Int)) rfl (Qaa (Qac (V:=I6 (j:Int)) rfl (Qaa (Qa2 rfl rfl (Qae (Qam (t:=decide ((i:Int)<(j:Int))) rfl (fun c2=>?_) (fun c2=>?_)))))))))))
 ·
  replace c2:=QQ1 c2
  refine Qao (Qan (Qag (Qab (Qaa (Qac (V:=I6 (i:Int)) rfl (Qaa (Qac (V:=I6 (j:Int)) rfl (Qaa (QaF (a:=(i:Int)) (b:=(j:Int)) (c:=((i+j:Nat):Int)) rfl rfl (Qak (by omega) (by omega)) (Qaa (Qcl QhS Qdm rfl (QdO (by omega) (by omega)) (Qaa (Qg8 rfl rfl (Qaa (Qcl Qdm QhS rfl (QbE (by omega) (by omega)) (Qaa (Qad (V:=I6 (((i+j)/2:Nat):Int)) rfl (Qae (Qag (Qab (Qaa (Qac (V:=.func (.func g) #[] #[]) rfl (Qaa (Qac (V:=.slice a l.length c) rfl (Qaa (Qac (V:=I6 (((i+j)/2:Nat):Int)) rfl (Qaa (Qax Qem QbP.1 (Rd.own' hr hs) rfl rfl (by omega) (by rw [QQ6];omega) (Qaa (Qbb (j:=0) (vs:=lsc (gd l ((i+j)/2))) ((i+j)/2) QbP (Rd.own' hr hs) (Qba (by omega)) rfl rfl rfl (by omega) (Qaa (Qac (V:=I7 t) rfl (Qaa (Qfo (vs:=[.agg (lsc (gd l ((i+j)/2))).toArray,I7 t]) (cs:=[]) (V:=I6 (cf (gd l ((i+j)/2)))) hg rfl rfl (hcmp _ (gd l ((i+j)/2))) hs fun w3 hs=>(Qaa (Qa2 rfl rfl (Qae (Qam (t:=decide (cf (gd l ((i+j)/2))<0)) rfl (fun c4=>?_) (fun c4=>?_)))))))))))))))))))))))))))))))))))))))
  ·
   replace c4:=QQ1 c4
   refine Qab (Qaa (Qac (V:=I6 (((i+j)/2:Nat):Int)) rfl (Qaa (QaF (a:=(((i+j)/2:Nat):Int)) (b:=1) (c:=((((i+j)/2)+1:Nat):Int)) rfl rfl (Qak (by omega) (by omega)) (Qaa (Qad (V:=I6 ((((i+j)/2)+1:Nat):Int)) rfl (Qae ?_)))))))
   refine ⟨_,?_,_,((i+j)/2)+1,j,Qal (Qal (Qap (ds:=([9,10,11]++sq 15 20)) (by repeat (first|exact Agr.refl _ _|refine Agr.upd ?_ rfl|refine Agr.mix ?_ rfl))) rfl) rfl,(by have:=QnK (f:=(fun x=>decide (cf x<0))) hm (by omega) (QQ3 c4);omega),(by omega),(by omega),rfl,hs.take 0⟩
   omega
  replace c4:=QQ2 c4
  refine Qab (Qaa (Qac (V:=I6 (((i+j)/2:Nat):Int)) rfl (Qaa (Qad (V:=I6 (((i+j)/2:Nat):Int)) rfl (Qae ?_)))))
  refine ⟨_,?_,_,i,(i+j)/2,Qal (Qal (Qap (ds:=([9,10,11]++sq 15 20)) (by repeat (first|exact Agr.refl _ _|refine Agr.upd ?_ rfl|refine Agr.mix ?_ rfl))) rfl) rfl,(by omega),(by have:=Qhv (f:=(fun x=>decide (cf x<0))) (l:=l) (QQ4 c4);omega),(by omega),rfl,hs.take 0⟩
  omega
 replace c2:=QQ2 c2
 refine QaJ (Qag ?_)
 have hij:i=j:=by omega
 refine Qbw [some 35,some 36,some 37,some 38,some 39,some 40,some 41,some 42,some 43,some 44,some 45,some 46,some 47,some 48,some 6,some 7] [] [0,0,0,6,14,30,30,30,222,478,30,2046,4094,8190,4095,32767] [pv (I6 (i:Int)),pv (I6 (i:Int)),pv (I6 ((l.length:Nat):Int)),pv (.bool (decide ((i:Int)<((l.length:Nat):Int)))),pv (.bool (decide ((i:Int)<((l.length:Nat):Int)))),pg ((decide ((i:Int)<((l.length:Nat):Int))) == true) (.func (.func g) #[] #[]),pg ((decide ((i:Int)<((l.length:Nat):Int))) == true) (.slice a l.length c),pg ((decide ((i:Int)<((l.length:Nat):Int))) == true) (I6 (i:Int)),pg ((decide ((i:Int)<((l.length:Nat):Int))) == true) (.pointer (some ⟨bkS (.slice a l.length c),ofS (.slice a l.length c)+(i:Int).toNat*2,none⟩)),pg ((decide ((i:Int)<((l.length:Nat):Int))) == true) (.agg (lsc (gd l i)).toArray),pg ((decide ((i:Int)<((l.length:Nat):Int))) == true) (I7 t),pg ((decide ((i:Int)<((l.length:Nat):Int))) == true) (I6 (cf (gd l i))),pg ((decide ((i:Int)<((l.length:Nat):Int))) == true) (.bool (decide (cf (gd l i)=0))),pv (.bool ((decide ((i:Int)<((l.length:Nat):Int)))&&(decide (cf (gd l i)=0)))),pv (I6 (i:Int)),pv (.bool ((decide ((i:Int)<((l.length:Nat):Int)))&&(decide (cf (gd l i)=0))))] (fun _ _=>_) [15,14] (by kernel_rfl) hs ⟨?_,?_,?_,?_,?_,?_,?_,?_,?_,?_,?_,?_,?_,?_,?_,?_,trivial⟩ ?_
 ·exact oa [] fun D J w hs=>Qac (V:=.int .i64 (i:Int)) rfl (Zz hs)
 ·exact oa [] fun D J w hs=>Qac (V:=.int .i64 (i:Int)) rfl (Zz hs)
 ·exact oa [] fun D J w hs=>Qac (V:=.int .i64 ((l.length:Nat):Int)) rfl (Zz hs)
 ·exact oa [1,2] fun D J w hs=>Qa2 rfl rfl (Zz hs)
 ·exact oa [3] fun D J w hs=>Qac (V:=.bool (decide ((i:Int)<((l.length:Nat):Int)))) rfl (Zz hs)
 ·exact og [4] fun D J w hG hs=>Qac (V:=.func (.func g) #[] #[]) rfl (Zz hs)
 ·exact og [4] fun D J w hG hs=>Qac (V:=.slice a l.length c) rfl (Zz hs)
 ·exact og [4] fun D J w hG hs=>Qac (V:=.int .i64 (i:Int)) rfl (Zz hs)
 ·refine oy [4,6,7] [6,7] fun D J w hG hs=>?_
  have hgd:=QQ1 (eq_of_beq (hG))
  exact Qax Qem QbP.1 (Rd.own' hr hs) rfl rfl (by omega) (by rw [QQ6];omega) (Zz hs)
 ·refine oy [4,8] [8] fun D J w hG hs=>?_
  have hgd:=QQ1 (eq_of_beq (hG))
  exact Qbb (j:=0) (vs:=lsc (gd l i)) i QbP (Rd.own' hr hs) (Qba (by omega)) rfl rfl rfl (by omega) (Zz hs)
 ·exact og [4] fun D J w hG hs=>Qac (V:=.int .u16 t) rfl (Zz hs)
 ·exact oy [4,5,9,10] [5,9,10] fun D J w hG hs=>Qfo (vs:=[.agg (lsc (gd l i)).toArray,.int .u16 t]) (cs:=[]) (V:=.int .i64 (cf (gd l i))) hg rfl rfl (hcmp _ (gd l i)) hs fun _ hs=>Zz hs
 ·exact oy [4,11] [11] fun D J w hG hs=>QaZ rfl rfl (Zz hs)
 ·exact oa [4,12] fun D J w hs=>Qbn (h':=decide (cf (gd l i)=0)) rfl rfl rfl (Zz hs)
 ·exact oa [0] fun D J w hs=>Qad (V:=.int .i64 (i:Int)) rfl (Zz hs)
 ·exact oa [13] fun D J w hs=>Qad (V:=.bool ((decide ((i:Int)<((l.length:Nat):Int)))&&(decide (cf (gd l i)=0)))) rfl (Zz hs)
 rintro J1 w6 J2 hJ hs
 replace hJ:J2=upd (upd (mix (sq 35 14++[6,7]) J1 _) 6 (I6 (i:Int))) 7 (.bool ((decide ((i:Int)<((l.length:Nat):Int)))&&(decide (cf (gd l i)=0)))):=hJ
 subst hJ
 refine Qaw ?_
 refine ⟨_,QbI (U:=I6 (i:Int)) (V:=.bool ((decide ((i:Int)<((l.length:Nat):Int)))&&(decide (cf (gd l i)=0)))) Tryz.results124 rfl rfl,(Zr hs ?_)⟩
 have hip2:i=Qcj (fun x=>decide (cf x<0)) l:=by omega
 rw [← hip2]
 congr 3
 by_cases h:i<l.length<;>simp [h]
end Tt
end Go.Proofs
namespace Go.Proofs
open Go Go.Vx Go.RowKit
namespace Tt
theorem QkL (w:World) (x y:Cen):Calls Tryz.prog 120 #[.agg (cec x).toArray,.agg (cec y).toArray] w (fun e w'=>e = .returned (.int .i64 (QbS x y))/\Own w no w' []):=by
 refine Qai (n:=26) Tryz.func120 rfl Tryz.ntmps120 rfl ?_
 have hs:=Own.start w
 refine Qag (Qab (Qaa (Qa4 (V:=.agg (cec x).toArray) (cs:=cec x) rfl rfl hs fun b1 w2 hs=>(Qaa (Qa4 (V:=.agg (cec y).toArray) (cs:=cec y) rfl rfl hs fun b3 w4 hs=>(Qaa (Qad (V:=I6 0) rfl (Qae (Qag ?_)))))))))
 replace hs:=hs.more emp trivial
 refine QaH HM [some 5,some 6,some 7,some 8,some 9,some 10,some 11,some 12,some 13,some 14,some 15,some 16,some 17,some 18,some 19,some 20,some 21,some 22,some 23,some 24,some 25,some 4] [[],[],[],[],[],[],[],[],[],[],[],[],[],[],[],[],[],[],[],[24]] [0,1,0,4,15,0,32,96,0,256,768,2047,0,4096,12288,0,32768,98304,262143,524287,1048575,2097151] [pv (Pq b1 (0+0)),pv (I7 x.cart),pv (Pq b3 (0+0)),pv (I7 y.cart),pv (I6 (Qa0 x.cart y.cart)),pv (Pq b1 (0+4)),pv (Pq b1 (0+4+0)),pv (.int .u8 x.dot.rep),pv (Pq b3 (0+4)),pv (Pq b3 (0+4+0)),pv (.int .u8 y.dot.rep),pv (I6 (Qa0 x.dot.rep y.dot.rep)),pv (Pq b1 (0+4)),pv (Pq b1 (0+4+1)),pv (.int .u32 x.dot.seq),pv (Pq b3 (0+4)),pv (Pq b3 (0+4+1)),pv (.int .u32 y.dot.seq),pv (I6 (Qa0 x.dot.seq y.dot.seq)),(true,fun J=>.slice (some ⟨(bOf (J 24)),0,none⟩) 3 3),pv (I6 (orI [Qa0 x.cart y.cart,Qa0 x.dot.rep y.dot.rep,Qa0 x.dot.seq y.dot.seq])),pv (I6 (orI [Qa0 x.cart y.cart,Qa0 x.dot.rep y.dot.rep,Qa0 x.dot.seq y.dot.seq]))] (fun D J=>[blk b1 (cec x) 106,blk b3 (cec y) 106,cond (D 19) (row (.slice (some ⟨(bOf (J 24)),0,none⟩) 3 3) ([Qa0 x.cart y.cart,Qa0 x.dot.rep y.dot.rep,Qa0 x.dot.seq y.dot.seq].map (ic .i64)) 3 1) (emp)]) [21] (by kernel_rfl) hs ⟨?_,?_,?_,?_,?_,?_,?_,?_,?_,?_,?_,?_,?_,?_,?_,?_,?_,?_,?_,?_,?_,?_,trivial⟩ ?_
 ·exact oa [] fun D J w hs=>Qaf Qde rfl (Zz hs)
 ·exact oa [0] fun D J w hs=>QaQ (V:=.int .u16 x.cart) Qar hs 0 rfl rfl rfl (Zz hs)
 ·exact oa [] fun D J w hs=>Qaf Qde rfl (Zz hs)
 ·exact oa [2] fun D J w hs=>QaQ (V:=.int .u16 y.cart) Qar hs 1 rfl rfl rfl (Zz hs)
 ·exact oa [1,3] fun D J w hs=>Qat (vs:=[.int .u16 x.cart,.int .u16 y.cart]) (V:=.int .i64 (Qa0 x.cart y.cart)) QoW rfl rfl (QcY _ x.cart y.cart) hs fun _ hs=>Zz hs
 ·exact oa [] fun D J w hs=>Qaf QbN rfl (Zz hs)
 ·exact oa [5] fun D J w hs=>Qaf QbZ rfl (Zz hs)
 ·exact oa [6] fun D J w hs=>QaQ (V:=.int .u8 x.dot.rep) Qdw hs 0 rfl rfl rfl (Zz hs)
 ·exact oa [] fun D J w hs=>Qaf QbN rfl (Zz hs)
 ·exact oa [8] fun D J w hs=>Qaf QbZ rfl (Zz hs)
 ·exact oa [9] fun D J w hs=>QaQ (V:=.int .u8 y.dot.rep) Qdw hs 1 rfl rfl rfl (Zz hs)
 ·exact oa [7,10] fun D J w hs=>Qat (vs:=[.int .u8 x.dot.rep,.int .u8 y.dot.rep]) (V:=.int .i64 (Qa0 x.dot.rep y.dot.rep)) Qro rfl rfl (Qd3 _ x.dot.rep y.dot.rep) hs fun _ hs=>Zz hs
 ·exact oa [] fun D J w hs=>Qaf QbN rfl (Zz hs)
 ·exact oa [12] fun D J w hs=>Qaf Qb0 rfl (Zz hs)
 ·exact oa [13] fun D J w hs=>QaQ (V:=.int .u32 x.dot.seq) QaX hs 0 rfl rfl rfl (Zz hs)
 ·exact oa [] fun D J w hs=>Qaf QbN rfl (Zz hs)
 ·exact oa [15] fun D J w hs=>Qaf Qb0 rfl (Zz hs)
 ·exact oa [16] fun D J w hs=>QaQ (V:=.int .u32 y.dot.seq) QaX hs 1 rfl rfl rfl (Zz hs)
 ·exact oa [14,17] fun D J w hs=>Qat (vs:=[.int .u32 x.dot.seq,.int .u32 y.dot.seq]) (V:=.int .i64 (Qa0 x.dot.seq y.dot.seq)) Qrw rfl rfl (QdN _ x.dot.seq y.dot.seq) hs fun _ hs=>Zz hs
 ·exact oa [4,11,18] fun D J w hs=>QhQ (vals:=[.int .i64 (Qa0 x.cart y.cart),.int .i64 (Qa0 x.dot.rep y.dot.rep),.int .i64 (Qa0 x.dot.seq y.dot.seq)]) (ls:=List.map (ic .i64) ([Qa0 x.cart y.cart,Qa0 x.dot.rep y.dot.rep,Qa0 x.dot.seq y.dot.seq]:List Int)) QnP rfl rfl rfl (Qbi (enc:=(ic .i64)) (fun _=>rfl) _) (QaV (Qfq .i64) _) (QQ8 rfl) hs fun _ _ hs=>⟨rfl,hs.put 2 (QQ8 rfl)⟩
 ·exact oa [19] fun D J w hs=>Qat (vs:=[.slice (some ⟨(bOf (J 24)),0,none⟩) 3 3]) (V:=.int .i64 (orI [Qa0 x.cart y.cart,Qa0 x.dot.rep y.dot.rep,Qa0 x.dot.seq y.dot.seq])) Qsr rfl rfl (QqS _ (some ⟨(bOf (J 24)),0,none⟩) 3 [Qa0 x.cart y.cart,Qa0 x.dot.rep y.dot.rep,Qa0 x.dot.seq y.dot.seq] (hs.rd 2 rfl)) hs fun _ hs=>Zz hs
 ·exact oa [20] fun D J w hs=>Qad (V:=.int .i64 (orI [Qa0 x.cart y.cart,Qa0 x.dot.rep y.dot.rep,Qa0 x.dot.seq y.dot.seq])) rfl (Zz hs)
 rintro J1 w10 J2 hJ hs
 replace hJ:J2=upd (mix (sq 5 21++[4]) J1 _) 4 (I6 (orI [Qa0 x.cart y.cart,Qa0 x.dot.rep y.dot.rep,Qa0 x.dot.seq y.dot.seq])):=hJ
 replace hs:Own w no w10 [blk b1 (cec x) 106,blk b3 (cec y) 106,row (.slice (some ⟨(bOf (J1 24)),0,none⟩) 3 3) ([Qa0 x.cart y.cart,Qa0 x.dot.rep y.dot.rep,Qa0 x.dot.seq y.dot.seq].map (ic .i64)) 3 1]:=hs
 generalize (bOf (J1 24))=b11 at hs
 subst hJ
 refine Qaw ?_
 refine ⟨_,Qaq (V:=I6 (orI [Qa0 x.cart y.cart,Qa0 x.dot.rep y.dot.rep,Qa0 x.dot.seq y.dot.seq])) Tryz.results120 rfl,(Zr hs ?_)⟩
 rfl
theorem Qle (w:World) (x:Cen) (hx:QiU x):Calls Tryz.prog 123 #[.agg (cec x).toArray] w (fun e w'=>e = .returned (.bool (QcT x))/\Own w no w' []):=by
 refine Qai (n:=25) Tryz.func123 rfl Tryz.ntmps123 rfl ?_
 have hs:=Own.start w
 refine Qag (Qab (Qaa (Qa4 (V:=.agg (cec x).toArray) (cs:=cec x) rfl rfl hs fun b1 w2 hs=>(Qaa (Qad (V:=.bool false) rfl (Qae (Qag (Qag (Qab (Qaa (Qaf Qef rfl (Qaa (QaQ (V:=.int .u8 x.kind) Qdw hs 0 rfl rfl rfl (Qae (Qan (Qag (Qab (Qaa (QaZ rfl rfl (Qaa (Qad (V:=.bool (decide (x.kind=1))) rfl (Qae (Qam (t:=decide (x.kind=1)) rfl (fun c3=>?_) (fun c3=>?_))))))))))))))))))))))))
 ·
  replace c3:=QQ1 c3
  refine Qag (Qab (Qaa (Qaf Qeg rfl (Qaa (QaQ (V:=I7 x.qty) Qar hs 0 rfl rfl rfl (Qaa (Qb2 rfl rfl (Qaa (Qad (V:=.bool (decide (0<x.qty))) rfl (Qae (Qaw ?_)))))))))))
  refine ⟨_,Qaq (V:=.bool (decide (0<x.qty))) Tryz.results123 rfl,(Zr hs (congrArg Value.bool ?_))⟩
  unfold QcT
  have ⟨_,_,⟨hq1,hq2⟩,_,_,_⟩:=hx
  simp_all [Bool.and_assoc]
  try omega
 replace c3:=QQ2 c3
 refine Qag (Qab (Qaa (QaZ rfl rfl (Qaa (Qad (V:=.bool (decide (x.kind=2))) rfl (Qae (Qam (t:=decide (x.kind=2)) rfl (fun c4=>?_) (fun c4=>?_))))))))
 ·
  replace c4:=QQ1 c4
  refine Qag (Qab (Qaa (Qad (V:=.bool true) rfl (Qae (Qaw ?_)))))
  refine ⟨_,Qaq (V:=.bool true) Tryz.results123 rfl,(Zr hs (congrArg Value.bool ?_))⟩
  unfold QcT
  have ⟨_,_,⟨hq1,hq2⟩,_,_,_⟩:=hx
  simp_all [Bool.and_assoc]
  try omega
 replace c4:=QQ2 c4
 refine Qao (Qag (Qbw [some 12,some 13,some 14,some 15,some 16,some 17,some 18,some 19,some 20,some 21,some 22,some 23,some 24,some 2] [] [0,1,3,7,15,31,63,127,255,511,1023,2047,4095,8191] [pv (Pq b1 (0+3)),pv (.int .u8 x.kind),pv (.bool (decide (x.kind=4))),pv (.bool (decide (x.kind=4))),pg ((decide (x.kind=4)) == true) (Pq b1 (0+1)),pg ((decide (x.kind=4)) == true) (I7 x.item),pg ((decide (x.kind=4)) == true) (.bool (decide (x.item=0))),pv (.bool ((decide (x.kind=4))&&(decide (x.item=0)))),pv (.bool ((decide (x.kind=4))&&(decide (x.item=0)))),pg (((decide (x.kind=4))&&(decide (x.item=0))) == true) (Pq b1 (0+2)),pg (((decide (x.kind=4))&&(decide (x.item=0))) == true) (I7 x.qty),pg (((decide (x.kind=4))&&(decide (x.item=0))) == true) (.bool (decide (x.qty=0))),pv (.bool (((decide (x.kind=4))&&(decide (x.item=0)))&&(decide (x.qty=0)))),pv (.bool (((decide (x.kind=4))&&(decide (x.item=0)))&&(decide (x.qty=0))))] (fun _ _=>_) [13] (by kernel_rfl) hs ⟨?_,?_,?_,?_,?_,?_,?_,?_,?_,?_,?_,?_,?_,?_,trivial⟩ ?_))
 ·exact oa [] fun D J w hs=>Qaf Qef rfl (Zz hs)
 ·exact oa [0] fun D J w hs=>QaQ (V:=.int .u8 x.kind) Qdw hs 0 rfl rfl rfl (Zz hs)
 ·exact oa [1] fun D J w hs=>QaZ rfl rfl (Zz hs)
 ·exact oa [2] fun D J w hs=>Qac (V:=.bool (decide (x.kind=4))) rfl (Zz hs)
 ·exact og [3] fun D J w hG hs=>Qaf Qdg rfl (Zz hs)
 ·exact oy [3,4] [4] fun D J w hG hs=>QaQ (V:=.int .u16 x.item) Qar hs 0 rfl rfl rfl (Zz hs)
 ·exact oy [3,5] [5] fun D J w hG hs=>QaZ rfl rfl (Zz hs)
 ·exact oa [3,6] fun D J w hs=>Qbn (h':=decide (x.item=0)) rfl rfl rfl (Zz hs)
 ·exact oa [7] fun D J w hs=>Qac (V:=.bool ((decide (x.kind=4))&&(decide (x.item=0)))) rfl (Zz hs)
 ·exact og [8] fun D J w hG hs=>Qaf Qeg rfl (Zz hs)
 ·exact oy [8,9] [9] fun D J w hG hs=>QaQ (V:=.int .u16 x.qty) Qar hs 0 rfl rfl rfl (Zz hs)
 ·exact oy [8,10] [10] fun D J w hG hs=>QaZ rfl rfl (Zz hs)
 ·exact oa [8,11] fun D J w hs=>Qbn (h':=decide (x.qty=0)) rfl rfl rfl (Zz hs)
 ·exact oa [12] fun D J w hs=>Qad (V:=.bool (((decide (x.kind=4))&&(decide (x.item=0)))&&(decide (x.qty=0)))) rfl (Zz hs)
 rintro J1 w5 J2 hJ hs
 replace hJ:J2=upd (mix (sq 12 13++[2]) J1 _) 2 (.bool (((decide (x.kind=4))&&(decide (x.item=0)))&&(decide (x.qty=0)))):=hJ
 subst hJ
 refine Qaw ?_
 refine ⟨_,Qaq (V:=.bool (((decide (x.kind=4))&&(decide (x.item=0)))&&(decide (x.qty=0)))) Tryz.results123 rfl,(Zr hs (congrArg Value.bool ?_))⟩
 unfold QcT
 have ⟨_,_,⟨hq1,hq2⟩,_,_,_⟩:=hx
 simp_all [Bool.and_assoc]
 try omega
theorem Qoj (w:World) (x:Lst) (c:Int):Calls Tryz.prog 125 #[.agg (lsc x).toArray,.int .u16 c] w (fun e w'=>e = .returned (.int .i64 (Qa0 x.cart c))/\Own w no w' []):=by
 refine Qai (n:=9) Tryz.func125 rfl Tryz.ntmps125 rfl ?_
 have hs:=Own.start w
 refine Qag (Qab (Qaa (Qa4 (V:=.agg (lsc x).toArray) (cs:=lsc x) rfl rfl hs fun b1 w2 hs=>(Qaa (Qad (V:=I6 0) rfl (Qae (Qag (Qab (Qaa (Qaf Qec rfl (Qaa (QaQ (V:=I7 x.cart) Qar hs 0 rfl rfl rfl (Qaa (Qac (V:=I7 c) rfl (Qaa (Qat (vs:=[I7 x.cart,I7 c]) (V:=I6 (Qa0 x.cart c)) QoW rfl rfl ?hc hs fun w3 hs=>?_))))))))))))))))
 case hc=>exact (QcY _ x.cart c)
 refine Qaa (Qad (V:=I6 (Qa0 x.cart c)) rfl (Qae (Qaw ?_)))
 refine ⟨_,Qaq (V:=I6 (Qa0 x.cart c)) Tryz.results125 rfl,(Zr hs ?_)⟩
 rfl
theorem Qhz (w:World) (kn:Vec) (v1:Value) (a2:Option Addr) (c2:Nat) (ts:List Lst) (c:Int) (hlt:ts.length<=100000) (hT:QdG ts) (hr2:Rd w (.slice a2 ts.length c2) 2 (ts.map lsc)):Calls Tryz.prog 74 #[.agg ((vc kn)++[(v1:Value),(.slice a2 ts.length c2:Value) ]).toArray,.int .u16 c] w (fun e w'=>e = .returned (.tuple #[.int .i64 ((QbL ts c:Nat):Int),.bool (QaM ts c).isSome])/\Own w no w' []):=by
 refine Qai (n:=12) Tryz.func74 rfl Tryz.ntmps74 rfl ?_
 have hs:=Own.start w
 refine Qag (Qab (Qaa (Qa4 (V:=.agg ((vc kn)++[(v1:Value),(.slice a2 ts.length c2:Value) ]).toArray) (cs:=(vc kn)++[(v1:Value),(.slice a2 ts.length c2:Value) ]) rfl rfl hs fun b1 w2 hs=>(Qaa (Qad (V:=I6 0) rfl (Qaa (Qad (V:=.bool false) rfl (Qae (Qag (Qab (Qaa (Qaf QcI rfl (Qaa (QaQ (V:=.slice a2 ts.length c2) Qfi hs 0 rfl rfl rfl (Qaa (Qac (V:=I7 c) rfl (Qaa (Qki (vs:=[.slice a2 ts.length c2,I7 c,.func (.func 125) #[] #[]]) (V:=.tuple #[I6 ((Qcj (fun x=>decide ((fun x:Lst=>Qa0 x.cart c) x<0)) ts:Nat):Int),.bool (decide (Qcj (fun x=>decide ((fun x:Lst=>Qa0 x.cart c) x<0)) ts<ts.length)&&decide ((fun x:Lst=>Qa0 x.cart c) (gd ts (Qcj (fun x=>decide ((fun x:Lst=>Qa0 x.cart c) x<0)) ts))=0))]) (V':=.tuple #[I6 ((QbL ts c:Nat):Int),.bool ((QaM ts c).isSome)]) (by rw [← Qlu hT c];rfl) Qs9 rfl rfl (Qmo _ a2 c2 ts c (by omega) 125 Qte (fun x:Lst=>Qa0 x.cart c) (fun w x=>Qoj w x c) (QmV hT c) (Rd.own' hr2 hs)) hs fun w3 hs=>(Qaa (QaA (V:=I6 ((QbL ts c:Nat):Int)) rfl rfl (Qaa (QaA (V:=.bool ((QaM ts c).isSome)) rfl rfl (Qaa (Qad (V:=I6 ((QbL ts c:Nat):Int)) rfl (Qaa (Qad (V:=.bool ((QaM ts c).isSome)) rfl (Qae (Qaw ?_))))))))))))))))))))))))))))
 refine ⟨_,QbI (U:=I6 ((QbL ts c:Nat):Int)) (V:=.bool ((QaM ts c).isSome)) Tryz.results74 rfl rfl,(Zr hs ?_)⟩
 rfl
end Tt
end Go.Proofs
namespace Go.Proofs
open Go Go.Vx Go.RowKit
namespace Tt
theorem Qsn (w:World) (d:Dot):Calls Tryz.prog 86 #[.agg (dc d).toArray] w (fun e w'=>e = .returned (.bool (QbJ d))/\Own w no w' []):=by
 refine Qai (n:=16) Tryz.func86 rfl Tryz.ntmps86 rfl ?_
 have hs:=Own.start w
 refine Qag (Qab (Qaa (Qa4 (V:=.agg (dc d).toArray) (cs:=dc d) rfl rfl hs fun b1 w2 hs=>(Qaa (Qad (V:=.bool false) rfl (Qae (Qag (Qbw [some 3,some 4,some 5,some 6,some 7,some 8,some 9,some 10,some 11,some 12,some 13,some 14,some 15,some 2] [] [0,1,3,7,15,31,63,127,255,511,1023,2047,4095,8191] [pv (Pq b1 (0+0)),pv (.int .u8 d.rep),pv (.bool (decide (d.rep<16))),pv (.bool (decide (d.rep<16))),pg ((decide (d.rep<16)) == true) (Pq b1 (0+1)),pg ((decide (d.rep<16)) == true) (.int .u32 d.seq),pg ((decide (d.rep<16)) == true) (.bool (decide (1<=d.seq))),pv (.bool ((decide (d.rep<16))&&(decide (1<=d.seq)))),pv (.bool ((decide (d.rep<16))&&(decide (1<=d.seq)))),pg (((decide (d.rep<16))&&(decide (1<=d.seq))) == true) (Pq b1 (0+1)),pg (((decide (d.rep<16))&&(decide (1<=d.seq))) == true) (.int .u32 d.seq),pg (((decide (d.rep<16))&&(decide (1<=d.seq))) == true) (.bool (decide (d.seq<=1048576))),pv (.bool (((decide (d.rep<16))&&(decide (1<=d.seq)))&&(decide (d.seq<=1048576)))),pv (.bool (((decide (d.rep<16))&&(decide (1<=d.seq)))&&(decide (d.seq<=1048576))))] (fun _ _=>_) [13] (by kernel_rfl) hs ⟨?_,?_,?_,?_,?_,?_,?_,?_,?_,?_,?_,?_,?_,?_,trivial⟩ ?_))))))))
 ·exact oa [] fun D J w hs=>Qaf QbZ rfl (Zz hs)
 ·exact oa [0] fun D J w hs=>QaQ (V:=.int .u8 d.rep) Qdw hs 0 rfl rfl rfl (Zz hs)
 ·exact oa [1] fun D J w hs=>Qa2 rfl rfl (Zz hs)
 ·exact oa [2] fun D J w hs=>Qac (V:=.bool (decide (d.rep<16))) rfl (Zz hs)
 ·exact og [3] fun D J w hG hs=>Qaf Qb0 rfl (Zz hs)
 ·exact oy [3,4] [4] fun D J w hG hs=>QaQ (V:=.int .u32 d.seq) QaX hs 0 rfl rfl rfl (Zz hs)
 ·exact oy [3,5] [5] fun D J w hG hs=>QcZ rfl rfl (Zz hs)
 ·exact oa [3,6] fun D J w hs=>Qbn (h':=decide (1<=d.seq)) rfl rfl rfl (Zz hs)
 ·exact oa [7] fun D J w hs=>Qac (V:=.bool ((decide (d.rep<16))&&(decide (1<=d.seq)))) rfl (Zz hs)
 ·exact og [8] fun D J w hG hs=>Qaf Qb0 rfl (Zz hs)
 ·exact oy [8,9] [9] fun D J w hG hs=>QaQ (V:=.int .u32 d.seq) QaX hs 0 rfl rfl rfl (Zz hs)
 ·exact oy [8,10] [10] fun D J w hG hs=>QdZ rfl rfl (Zz hs)
 ·exact oa [8,11] fun D J w hs=>Qbn (h':=decide (d.seq<=1048576)) rfl rfl rfl (Zz hs)
 ·exact oa [12] fun D J w hs=>Qad (V:=.bool (((decide (d.rep<16))&&(decide (1<=d.seq)))&&(decide (d.seq<=1048576)))) rfl (Zz hs)
 rintro J1 w3 J2 hJ hs
 replace hJ:J2=upd (mix (sq 3 13++[2]) J1 _) 2 (.bool (((decide (d.rep<16))&&(decide (1<=d.seq)))&&(decide (d.seq<=1048576)))):=hJ
 subst hJ
 refine Qaw ?_
 refine ⟨_,Qaq (V:=.bool (((decide (d.rep<16))&&(decide (1<=d.seq)))&&(decide (d.seq<=1048576)))) Tryz.results86 rfl,(Zr hs ?_)⟩
 rfl
theorem Qi1 (w:World) (d:Dot):Calls Tryz.prog 112 #[.agg (dc d).toArray] w (fun e w'=>e = .returned (.bool (QbJ d))/\Own w no w' []):=by
 refine Qai (n:=16) Tryz.func112 rfl Tryz.ntmps112 rfl ?_
 have hs:=Own.start w
 refine Qag (Qab (Qaa (Qa4 (V:=.agg (dc d).toArray) (cs:=dc d) rfl rfl hs fun b1 w2 hs=>(Qaa (Qad (V:=.bool false) rfl (Qae (Qag (Qbw [some 3,some 4,some 5,some 6,some 7,some 8,some 9,some 10,some 11,some 12,some 13,some 14,some 15,some 2] [] [0,1,3,7,15,31,63,127,255,511,1023,2047,4095,8191] [pv (Pq b1 (0+0)),pv (.int .u8 d.rep),pv (.bool (decide (d.rep<16))),pv (.bool (decide (d.rep<16))),pg ((decide (d.rep<16)) == true) (Pq b1 (0+1)),pg ((decide (d.rep<16)) == true) (.int .u32 d.seq),pg ((decide (d.rep<16)) == true) (.bool (decide (1<=d.seq))),pv (.bool ((decide (d.rep<16))&&(decide (1<=d.seq)))),pv (.bool ((decide (d.rep<16))&&(decide (1<=d.seq)))),pg (((decide (d.rep<16))&&(decide (1<=d.seq))) == true) (Pq b1 (0+1)),pg (((decide (d.rep<16))&&(decide (1<=d.seq))) == true) (.int .u32 d.seq),pg (((decide (d.rep<16))&&(decide (1<=d.seq))) == true) (.bool (decide (d.seq<=1048576))),pv (.bool (((decide (d.rep<16))&&(decide (1<=d.seq)))&&(decide (d.seq<=1048576)))),pv (.bool (((decide (d.rep<16))&&(decide (1<=d.seq)))&&(decide (d.seq<=1048576))))] (fun _ _=>_) [13] (by kernel_rfl) hs ⟨?_,?_,?_,?_,?_,?_,?_,?_,?_,?_,?_,?_,?_,?_,trivial⟩ ?_))))))))
 ·exact oa [] fun D J w hs=>Qaf QbZ rfl (Zz hs)
 ·exact oa [0] fun D J w hs=>QaQ (V:=.int .u8 d.rep) Qdw hs 0 rfl rfl rfl (Zz hs)
 ·exact oa [1] fun D J w hs=>Qa2 rfl rfl (Zz hs)
 ·exact oa [2] fun D J w hs=>Qac (V:=.bool (decide (d.rep<16))) rfl (Zz hs)
 ·exact og [3] fun D J w hG hs=>Qaf Qb0 rfl (Zz hs)
 ·exact oy [3,4] [4] fun D J w hG hs=>QaQ (V:=.int .u32 d.seq) QaX hs 0 rfl rfl rfl (Zz hs)
 ·exact oy [3,5] [5] fun D J w hG hs=>QcZ rfl rfl (Zz hs)
 ·exact oa [3,6] fun D J w hs=>Qbn (h':=decide (1<=d.seq)) rfl rfl rfl (Zz hs)
 ·exact oa [7] fun D J w hs=>Qac (V:=.bool ((decide (d.rep<16))&&(decide (1<=d.seq)))) rfl (Zz hs)
 ·exact og [8] fun D J w hG hs=>Qaf Qb0 rfl (Zz hs)
 ·exact oy [8,9] [9] fun D J w hG hs=>QaQ (V:=.int .u32 d.seq) QaX hs 0 rfl rfl rfl (Zz hs)
 ·exact oy [8,10] [10] fun D J w hG hs=>QdZ rfl rfl (Zz hs)
 ·exact oa [8,11] fun D J w hs=>Qbn (h':=decide (d.seq<=1048576)) rfl rfl rfl (Zz hs)
 ·exact oa [12] fun D J w hs=>Qad (V:=.bool (((decide (d.rep<16))&&(decide (1<=d.seq)))&&(decide (d.seq<=1048576)))) rfl (Zz hs)
 rintro J1 w3 J2 hJ hs
 replace hJ:J2=upd (mix (sq 3 13++[2]) J1 _) 2 (.bool (((decide (d.rep<16))&&(decide (1<=d.seq)))&&(decide (d.seq<=1048576)))):=hJ
 subst hJ
 refine Qaw ?_
 refine ⟨_,Qaq (V:=.bool (((decide (d.rep<16))&&(decide (1<=d.seq)))&&(decide (d.seq<=1048576)))) Tryz.results112 rfl,(Zr hs ?_)⟩
 rfl
theorem QgA (w:World) (v:Vec) (d:Dot) (hd:Qc9 d):Calls Tryz.prog 40 #[.agg (vc v).toArray,.agg (dc d).toArray] w (fun e w'=>e = .returned (.bool (Qbv v d))/\Own w no w' []):=by
 refine Qai (n:=16) Tryz.func40 rfl Tryz.ntmps40 rfl ?_
 have hs:=Own.start w
 have ⟨⟨hd1,hd2⟩,hd3,hd4⟩:=hd
 refine Qag (Qab (Qaa (Qa4 (V:=.agg (vc v).toArray) (cs:=vc v) rfl rfl hs fun b1 w2 hs=>(Qaa (Qa4 (V:=.agg (dc d).toArray) (cs:=dc d) rfl rfl hs fun b3 w4 hs=>(Qaa (Qad (V:=.bool false) rfl (Qae (Qag (QaH HM [some 5,some 6,some 7,some 8,some 9,some 10,some 11,some 12,some 13,some 14,some 15,some 4] [] [0,1,3,7,15,7,39,103,231,511,1023,2047] [pv (.agg (dc d).toArray),pv (.bool (QbJ d)),pv (.bool (QbJ d)),pg ((QbJ d) == true) (Pq b3 (0+1)),pg ((QbJ d) == true) (.int .u32 d.seq),pg ((QbJ d) == true) (Pq b3 (0+0)),pg ((QbJ d) == true) (.int .u8 d.rep),pg ((QbJ d) == true) (.pointer (some ⟨b1,0+d.rep.toNat,none⟩)),pg ((QbJ d) == true) (.int .u32 (vat v d.rep.toNat)),pg ((QbJ d) == true) (.bool (decide (d.seq<=vat v d.rep.toNat))),pv (.bool ((QbJ d)&&(decide (d.seq<=vat v d.rep.toNat)))),pv (.bool ((QbJ d)&&(decide (d.seq<=vat v d.rep.toNat))))] (fun _ _=>_) [11] (by kernel_rfl) hs ⟨?_,?_,?_,?_,?_,?_,?_,?_,?_,?_,?_,?_,trivial⟩ ?_))))))))))
 ·exact oa [] fun D J w hs=>QaL (cs:=dc d) QcL hs 1 rfl rfl rfl (Zz hs)
 ·exact oa [0] fun D J w hs=>Qat (vs:=[.agg (dc d).toArray]) (V:=.bool (QbJ d)) Qu3 rfl rfl (Qsn _ d) hs fun _ hs=>Zz hs
 ·exact oa [1] fun D J w hs=>Qac (V:=.bool (QbJ d)) rfl (Zz hs)
 ·refine og [2] fun D J w hG hs=>?_
  have hb:=QaP (eq_of_beq hG)
  exact Qaf Qb0 rfl (Zz hs)
 ·refine oy [2,3] [3] fun D J w hG hs=>?_
  have hb:=QaP (eq_of_beq hG)
  exact QaQ (V:=.int .u32 d.seq) QaX hs 1 rfl rfl rfl (Zz hs)
 ·refine og [2] fun D J w hG hs=>?_
  have hb:=QaP (eq_of_beq hG)
  exact Qaf QbZ rfl (Zz hs)
 ·refine oy [2,5] [5] fun D J w hG hs=>?_
  have hb:=QaP (eq_of_beq hG)
  exact QaQ (V:=.int .u8 d.rep) Qdw hs 1 rfl rfl rfl (Zz hs)
 ·refine oy [2,6] [6] fun D J w hG hs=>?_
  have hb:=QaP (eq_of_beq hG)
  exact QbX QdT QaX.1 rfl rfl (by omega) (by omega) (Zz hs)
 ·refine oy [2,7] [7] fun D J w hG hs=>?_
  have hb:=QaP (eq_of_beq hG)
  exact QaQ (V:=.int .u32 (vat v d.rep.toNat)) QaX hs 0 rfl rfl (QfY (by omega) (by omega)) (Zz hs)
 ·refine oy [2,4,8] [4,8] fun D J w hG hs=>?_
  have hb:=QaP (eq_of_beq hG)
  exact QdZ rfl rfl (Zz hs)
 ·exact oa [2,9] fun D J w hs=>Qbn (h':=decide (d.seq<=vat v d.rep.toNat)) rfl rfl rfl (Zz hs)
 ·exact oa [10] fun D J w hs=>Qad (V:=.bool ((QbJ d)&&(decide (d.seq<=vat v d.rep.toNat)))) rfl (Zz hs)
 rintro J1 w6 J2 hJ hs
 replace hJ:J2=upd (mix (sq 5 11++[4]) J1 _) 4 (.bool ((QbJ d)&&(decide (d.seq<=vat v d.rep.toNat)))):=hJ
 subst hJ
 refine Qaw ?_
 refine ⟨_,Qaq (V:=.bool ((QbJ d)&&(decide (d.seq<=vat v d.rep.toNat)))) Tryz.results40 rfl,(Zr hs ?_)⟩
 rfl
theorem Qf6 (w:World) (v:Vec) (d:Dot) (hd:Qc9 d):Calls Tryz.prog 71 #[.agg (vc v).toArray,.agg (dc d).toArray] w (fun e w'=>e = .returned (.bool (Qbv v d))/\Own w no w' []):=by
 refine Qai (n:=16) Tryz.func71 rfl Tryz.ntmps71 rfl ?_
 have hs:=Own.start w
 have ⟨⟨hd1,hd2⟩,hd3,hd4⟩:=hd
 refine Qag (Qab (Qaa (Qa4 (V:=.agg (vc v).toArray) (cs:=vc v) rfl rfl hs fun b1 w2 hs=>(Qaa (Qa4 (V:=.agg (dc d).toArray) (cs:=dc d) rfl rfl hs fun b3 w4 hs=>(Qaa (Qad (V:=.bool false) rfl (Qae (Qag (QaH HM [some 5,some 6,some 7,some 8,some 9,some 10,some 11,some 12,some 13,some 14,some 15,some 4] [] [0,1,3,7,15,7,39,103,231,511,1023,2047] [pv (.agg (dc d).toArray),pv (.bool (QbJ d)),pv (.bool (QbJ d)),pg ((QbJ d) == true) (Pq b3 (0+1)),pg ((QbJ d) == true) (.int .u32 d.seq),pg ((QbJ d) == true) (Pq b3 (0+0)),pg ((QbJ d) == true) (.int .u8 d.rep),pg ((QbJ d) == true) (.pointer (some ⟨b1,0+d.rep.toNat,none⟩)),pg ((QbJ d) == true) (.int .u32 (vat v d.rep.toNat)),pg ((QbJ d) == true) (.bool (decide (d.seq<=vat v d.rep.toNat))),pv (.bool ((QbJ d)&&(decide (d.seq<=vat v d.rep.toNat)))),pv (.bool ((QbJ d)&&(decide (d.seq<=vat v d.rep.toNat))))] (fun _ _=>_) [11] (by kernel_rfl) hs ⟨?_,?_,?_,?_,?_,?_,?_,?_,?_,?_,?_,?_,trivial⟩ ?_))))))))))
 ·exact oa [] fun D J w hs=>QaL (cs:=dc d) QcL hs 1 rfl rfl rfl (Zz hs)
 ·exact oa [0] fun D J w hs=>Qat (vs:=[.agg (dc d).toArray]) (V:=.bool (QbJ d)) Qm5 rfl rfl (Qi1 _ d) hs fun _ hs=>Zz hs
 ·exact oa [1] fun D J w hs=>Qac (V:=.bool (QbJ d)) rfl (Zz hs)
 ·refine og [2] fun D J w hG hs=>?_
  have hb:=QaP (eq_of_beq hG)
  exact Qaf Qb0 rfl (Zz hs)
 ·refine oy [2,3] [3] fun D J w hG hs=>?_
  have hb:=QaP (eq_of_beq hG)
  exact QaQ (V:=.int .u32 d.seq) QaX hs 1 rfl rfl rfl (Zz hs)
 ·refine og [2] fun D J w hG hs=>?_
  have hb:=QaP (eq_of_beq hG)
  exact Qaf QbZ rfl (Zz hs)
 ·refine oy [2,5] [5] fun D J w hG hs=>?_
  have hb:=QaP (eq_of_beq hG)
  exact QaQ (V:=.int .u8 d.rep) Qdw hs 1 rfl rfl rfl (Zz hs)
 ·refine oy [2,6] [6] fun D J w hG hs=>?_
  have hb:=QaP (eq_of_beq hG)
  exact QbX QdT QaX.1 rfl rfl (by omega) (by omega) (Zz hs)
 ·refine oy [2,7] [7] fun D J w hG hs=>?_
  have hb:=QaP (eq_of_beq hG)
  exact QaQ (V:=.int .u32 (vat v d.rep.toNat)) QaX hs 0 rfl rfl (QfY (by omega) (by omega)) (Zz hs)
 ·refine oy [2,4,8] [4,8] fun D J w hG hs=>?_
  have hb:=QaP (eq_of_beq hG)
  exact QdZ rfl rfl (Zz hs)
 ·exact oa [2,9] fun D J w hs=>Qbn (h':=decide (d.seq<=vat v d.rep.toNat)) rfl rfl rfl (Zz hs)
 ·exact oa [10] fun D J w hs=>Qad (V:=.bool ((QbJ d)&&(decide (d.seq<=vat v d.rep.toNat)))) rfl (Zz hs)
 rintro J1 w6 J2 hJ hs
 replace hJ:J2=upd (mix (sq 5 11++[4]) J1 _) 4 (.bool ((QbJ d)&&(decide (d.seq<=vat v d.rep.toNat)))):=hJ
 subst hJ
 refine Qaw ?_
 refine ⟨_,Qaq (V:=.bool ((QbJ d)&&(decide (d.seq<=vat v d.rep.toNat)))) Tryz.results71 rfl,(Zr hs ?_)⟩
 rfl
theorem QfU (w:World) (v:Vec) (n:Int) (hv:QbM v):Calls Tryz.prog 60 #[.agg (vc v).toArray,.int .i64 n] w (fun e w'=>e = .returned (.bool (QaR v n))/\Own w no w' []):=by
 refine Qai (n:=30) Tryz.func60 rfl Tryz.ntmps60 rfl ?_
 have hs:=Own.start w
 refine Qag (Qab (Qaa (Qa4 (V:=.agg (vc v).toArray) (cs:=vc v) rfl rfl hs fun b1 w2 hs=>(Qaa (Qad (V:=.bool false) rfl (Qae (Qag (Qag (Qbw [some 7,some 8,some 9,some 10,some 11,some 12] [] [0,1,3,7,15,31] [pv (I6 n),pv (.bool (decide (n<1))),pv (.bool (decide (n<1))),pg ((decide (n<1)) == false) (I6 n),pg ((decide (n<1)) == false) (.bool (decide (16<n))),pv (.bool ((decide (n<1))||(decide (16<n))))] (fun _ _=>_) [5] (by kernel_rfl) hs ⟨?_,?_,?_,?_,?_,?_,trivial⟩ ?_)))))))))
 ·exact oa [] fun D J w hs=>Qac (V:=.int .i64 n) rfl (Zz hs)
 ·exact oa [0] fun D J w hs=>Qa2 rfl rfl (Zz hs)
 ·exact oa [1] fun D J w hs=>Qac (V:=.bool (decide (n<1))) rfl (Zz hs)
 ·exact og [2] fun D J w hG hs=>Qac (V:=.int .i64 n) rfl (Zz hs)
 ·exact oy [2,3] [3] fun D J w hG hs=>Qb2 rfl rfl (Zz hs)
 ·exact oa [2,4] fun D J w hs=>Qcs (h':=decide (16<n)) rfl rfl rfl (Zz hs)
 rintro J1 w3 J2 hJ hs
 replace hJ:J2=upd (mix (sq 7 6) J1 _) 12 (.bool ((decide (n<1))||(decide (16<n)))):=hJ
 subst hJ
 refine Qam (t:=(decide (n<1))||(decide (16<n))) rfl (fun c4=>?_) (fun c4=>?_)
 ·
  refine Qag (Qab (Qaa (Qad (V:=.bool false) rfl (Qae (Qaw ?_)))))
  refine ⟨_,Qaq (V:=.bool false) Tryz.results60 rfl,(Zr hs ?_)⟩
  exact congrArg Value.bool (Qfk c4).symm
 have c4r:=QgD c4
 replace c4:=QgK c4
 replace c4:=QQ2 c4
 replace c4r:=QQ2 c4r
 refine Qao (Qag (Qag (Qab (Qaa (QaL (cs:=vc v) Qbk hs 0 rfl rfl rfl (Qaa (Qac (V:=I6 0) rfl (Qae (Qan (QaD (fun J μ J' w'=>∃ (Jo:Env) (k:Nat),J'=upd (mix ([4,5,6]++sq 14 16) Jo J) 14 (I6 (k:Int))/\(k<=16)/\(∀ j:Nat,j<k->QgM v n j=true)/\μ=16-k/\Own w no w' [blk b1 (vc v) 24]) ?_ ?_))))))))))
 ·exact ⟨_,_,0,Qal (Qap (ds:=([4,5,6]++sq 14 16)) (Agr.refl _ _)) rfl,(by omega),(fun j hj=>absurd hj (Nat.not_lt_zero j)),rfl,hs⟩
 rintro μ J' w5 ⟨Jo,k,rfl,hk,hok,rfl,hs⟩
 have hv1:=Qhd hv ((k:Int).toNat)
 have hkk:((k:Int)).toNat=k:=rfl
 refine Qag (Qab (Qaa (Qa2 rfl rfl (Qae (Qag (Qam (t:=decide ((k:Int)<16)) rfl (fun c6=>?_) (fun c6=>?_)))))))
 ·
  replace c6:=QQ1 c6
  refine Qao (Qag (Qan (Qag (Qab (Qaa (Qac (V:=I6 (k:Int)) rfl (Qaa (Qji (V:=.int .u32 (vat v k)) QdT QaX rfl rfl (by omega) (by omega) (by rw [List.getElem?_toArray];exact Qhr _ _ (by omega)) ?_))))))))
  refine Qaa (Qad (V:=I6 (k:Int)) rfl (Qaa (Qad (V:=.int .u32 (vat v k)) rfl (Qae (Qag (Qbw [some 18,some 19,some 20,some 21,some 22,some 23,some 24,some 25,some 26,some 27,some 28] [] [0,1,3,7,7,31,63,127,255,511,1023] [pv (.int .u32 (vat v k)),pv (.bool (decide (1048576<vat v k))),pv (.bool (decide (1048576<vat v k))),pg ((decide (1048576<vat v k)) == false) (I6 (k:Int)),pg ((decide (1048576<vat v k)) == false) (I6 n),pg ((decide (1048576<vat v k)) == false) (.bool (decide (n<=(k:Int)))),pg ((decide (1048576<vat v k)) == false) (.bool (decide (n<=(k:Int)))),pg (((decide (1048576<vat v k)) == false)&&((decide (n<=(k:Int))) == true)) (.int .u32 (vat v k)),pg (((decide (1048576<vat v k)) == false)&&((decide (n<=(k:Int))) == true)) (.bool (decide (0<vat v k))),pg ((decide (1048576<vat v k)) == false) (.bool ((decide (n<=(k:Int)))&&(decide (0<vat v k)))),pv (.bool ((decide (1048576<vat v k))||((decide (n<=(k:Int)))&&(decide (0<vat v k)))))] (fun _ _=>_) [10] (by kernel_rfl) hs ⟨?_,?_,?_,?_,?_,?_,?_,?_,?_,?_,?_,trivial⟩ ?_))))))
  ·exact oa [] fun D J w hs=>Qac (V:=.int .u32 (vat v k)) rfl (Zz hs)
  ·exact oa [0] fun D J w hs=>Qb2 rfl rfl (Zz hs)
  ·exact oa [1] fun D J w hs=>Qac (V:=.bool (decide (1048576<vat v k))) rfl (Zz hs)
  ·exact og [2] fun D J w hG hs=>Qac (V:=.int .i64 (k:Int)) rfl (Zz hs)
  ·exact og [2] fun D J w hG hs=>Qac (V:=.int .i64 n) rfl (Zz hs)
  ·exact oy [2,3,4] [3,4] fun D J w hG hs=>QcZ rfl rfl (Zz hs)
  ·exact oy [2,5] [5] fun D J w hG hs=>Qac (V:=.bool (decide (n<=(k:Int)))) rfl (Zz hs)
  ·exact og [6] fun D J w hG hs=>Qac (V:=.int .u32 (vat v k)) rfl (Zz hs)
  ·exact oy [6,7] [7] fun D J w hG hs=>Qb2 rfl rfl (Zz hs)
  ·exact oy [2,6,8] [6] fun D J w hG hs=>Qj9 (h':=decide (0<vat v k)) (G:=((decide (1048576<vat v k)) == false)) hG rfl rfl rfl (Zz hs)
  ·exact oa [2,9] fun D J w hs=>Qcs (h':=(decide (n<=(k:Int)))&&(decide (0<vat v k))) rfl rfl rfl (Zz hs)
  rintro J1 w7 J2 hJ hs
  replace hJ:J2=upd (mix (sq 18 11) J1 _) 28 (.bool ((decide (1048576<vat v k))||((decide (n<=(k:Int)))&&(decide (0<vat v k))))):=hJ
  subst hJ
  refine Qam (t:=(decide (1048576<vat v k))||((decide (n<=(k:Int)))&&(decide (0<vat v k)))) rfl (fun c8=>?_) (fun c8=>?_)
  ·
   refine Qag (Qab (Qaa (Qad (V:=.bool false) rfl (Qae (Qaw ?_)))))
   refine ⟨_,Qaq (V:=.bool false) Tryz.results60 rfl,(Zr hs ?_)⟩
   exact congrArg Value.bool (Qib (k:=k) (by omega) (QnN c8)).symm
  have c8r:=QgD c8
  replace c8:=QgK c8
  replace c8:=QQ2 c8
  refine Qao (Qab (Qaa (QaF (a:=(k:Int)) (b:=1) (c:=(k:Int)+1) rfl rfl (QbE (by omega) (by omega)) (Qaa (Qac (V:=I6 ((k:Int)+1)) rfl (Qae ?_))))))
  refine ⟨_,?_,_,k+1,Qal (Qap (ds:=([4,5,6]++sq 14 16)) (by repeat (first|exact Agr.refl _ _|refine Agr.upd ?_ rfl|refine Agr.mix ?_ rfl))) rfl,(by omega),(Qix hok (Qkg c8 c8r)),rfl,hs.take 1⟩
  omega
 replace c6:=QQ2 c6
 refine QaJ (Qag (Qab (Qaa (Qad (V:=.bool true) rfl (Qae (Qaw ?_))))))
 refine ⟨_,Qaq (V:=.bool true) Tryz.results60 rfl,(Zr hs ?_)⟩
 exact congrArg Value.bool ((Qg9 fun j hj=>hok j (by omega)).trans (by simp;omega)).symm
theorem QlI (w:World) (v:Vec) (n:Int) (hv:QbM v):Calls Tryz.prog 34 #[.agg (vc v).toArray,.int .i64 n] w (fun e w'=>e = .returned (.bool (QaR v n))/\Own w no w' []):=by
 refine Qai (n:=31) Tryz.func34 rfl Tryz.ntmps34 rfl ?_
 have hs:=Own.start w
 refine Qag (Qab (Qaa (Qa4 (V:=.agg (vc v).toArray) (cs:=vc v) rfl rfl hs fun b1 w2 hs=>(Qaa (Qad (V:=.bool false) rfl (Qae (Qag (Qag (Qab (Qaa (Qad (V:=I6 0) rfl (Qae (Qan (QaD (fun J μ J' w'=>∃ (Jo:Env) (k:Nat),J'=upd (mix (sq 4 21) Jo J) 5 (I6 (k:Int))/\(k<=16)/\(∀ j:Nat,j<k->QgM v n j=true)/\μ=16-k/\Own w no w' [blk b1 (vc v) 24]) ?_ ?_))))))))))))))
 ·exact ⟨_,_,0,Qal (Qap (ds:=(sq 4 21)) (Agr.refl _ _)) rfl,(by omega),(fun j hj=>absurd hj (Nat.not_lt_zero j)),rfl,hs⟩
 rintro μ J' w3 ⟨Jo,k,rfl,hk,hok,rfl,hs⟩
 have hv1:=Qhd hv ((k:Int).toNat)
 have hkk:((k:Int)).toNat=k:=rfl
 refine Qag (Qag (Qab (Qaa (Qac (V:=I6 (k:Int)) rfl (Qaa (Qa2 rfl rfl (Qae (Qam (t:=decide ((k:Int)<16)) rfl (fun c4=>?_) (fun c4=>?_)))))))))
 ·
  replace c4:=QQ1 c4
  refine Qao (Qag (Qan (Qag (Qbw [some 10,some 11,some 12,some 13,some 14,some 15,some 16,some 17,some 18,some 19,some 20,some 21,some 22,some 23,some 24] [] [0,1,3,7,15,31,31,127,255,511,1023,2047,4095,8191,16383] [pv (I6 (k:Int)),pv (.pointer (some ⟨b1,0+(k:Int).toNat,none⟩)),pv (.int .u32 (vat v k)),pv (.bool (decide (1048576<vat v k))),pv (.bool (decide (1048576<vat v k))),pg ((decide (1048576<vat v k)) == false) (I6 (k:Int)),pg ((decide (1048576<vat v k)) == false) (I6 n),pg ((decide (1048576<vat v k)) == false) (.bool (decide (n<=(k:Int)))),pg ((decide (1048576<vat v k)) == false) (.bool (decide (n<=(k:Int)))),pg (((decide (1048576<vat v k)) == false)&&((decide (n<=(k:Int))) == true)) (I6 (k:Int)),pg (((decide (1048576<vat v k)) == false)&&((decide (n<=(k:Int))) == true)) (.pointer (some ⟨b1,0+(k:Int).toNat,none⟩)),pg (((decide (1048576<vat v k)) == false)&&((decide (n<=(k:Int))) == true)) (.int .u32 (vat v k)),pg (((decide (1048576<vat v k)) == false)&&((decide (n<=(k:Int))) == true)) (.bool (!decide (vat v k=0))),pg ((decide (1048576<vat v k)) == false) (.bool ((decide (n<=(k:Int)))&&(!decide (vat v k=0)))),pv (.bool ((decide (1048576<vat v k))||((decide (n<=(k:Int)))&&(!decide (vat v k=0)))))] (fun _ _=>_) [14] (by kernel_rfl) hs ⟨?_,?_,?_,?_,?_,?_,?_,?_,?_,?_,?_,?_,?_,?_,?_,trivial⟩ ?_))))
  ·exact oa [] fun D J w hs=>Qac (V:=.int .i64 (k:Int)) rfl (Zz hs)
  ·exact oa [0] fun D J w hs=>QbX QdT QaX.1 rfl rfl (by omega) (by omega) (Zz hs)
  ·exact oa [1] fun D J w hs=>QaQ (V:=.int .u32 (vat v k)) QaX hs 0 rfl rfl (QfY (by omega) (by omega)) (Zz hs)
  ·exact oa [2] fun D J w hs=>Qb2 rfl rfl (Zz hs)
  ·exact oa [3] fun D J w hs=>Qac (V:=.bool (decide (1048576<vat v k))) rfl (Zz hs)
  ·exact og [4] fun D J w hG hs=>Qac (V:=.int .i64 (k:Int)) rfl (Zz hs)
  ·exact og [4] fun D J w hG hs=>Qac (V:=.int .i64 n) rfl (Zz hs)
  ·exact oy [4,5,6] [5,6] fun D J w hG hs=>QcZ rfl rfl (Zz hs)
  ·exact oy [4,7] [7] fun D J w hG hs=>Qac (V:=.bool (decide (n<=(k:Int)))) rfl (Zz hs)
  ·exact og [8] fun D J w hG hs=>Qac (V:=.int .i64 (k:Int)) rfl (Zz hs)
  ·refine oy [8,9] [9] fun D J w hG hs=>?_
   have hgd0:=QQ2 (eq_of_beq (Qb3 (hG)))
   have hgd1:=QQ1 (eq_of_beq (Qcy (hG)))
   exact QbX QdT QaX.1 rfl rfl (by omega) (by omega) (Zz hs)
  ·refine oy [8,10] [10] fun D J w hG hs=>?_
   have hgd0:=QQ2 (eq_of_beq (Qb3 (hG)))
   have hgd1:=QQ1 (eq_of_beq (Qcy (hG)))
   exact QaQ (V:=.int .u32 (vat v k)) QaX hs 0 rfl rfl (QfY (by omega) (by omega)) (Zz hs)
  ·exact oy [8,11] [11] fun D J w hG hs=>Qcv rfl rfl (Zz hs)
  ·exact oy [4,8,12] [8] fun D J w hG hs=>Qj9 (h':=!decide (vat v k=0)) (G:=((decide (1048576<vat v k)) == false)) hG rfl rfl rfl (Zz hs)
  ·exact oa [4,13] fun D J w hs=>Qcs (h':=(decide (n<=(k:Int)))&&(!decide (vat v k=0))) rfl rfl rfl (Zz hs)
  rintro J1 w5 J2 hJ hs
  replace hJ:J2=upd (mix (sq 10 15) J1 _) 24 (.bool ((decide (1048576<vat v k))||((decide (n<=(k:Int)))&&(!decide (vat v k=0))))):=hJ
  subst hJ
  refine Qam (t:=(decide (1048576<vat v k))||((decide (n<=(k:Int)))&&(!decide (vat v k=0)))) rfl (fun c6=>?_) (fun c6=>?_)
  ·
   refine Qag (Qab (Qaa (Qad (V:=.bool false) rfl (Qae (Qaw ?_)))))
   refine ⟨_,Qaq (V:=.bool false) Tryz.results34 rfl,(Zr hs ?_)⟩
   exact congrArg Value.bool (Qib (k:=k) (by omega) (QpW hv c6)).symm
  have c6r:=QgD c6
  replace c6:=QgK c6
  replace c6:=QQ2 c6
  refine Qao (Qab (Qaa (Qac (V:=I6 (k:Int)) rfl (Qaa (QaF (a:=(k:Int)) (b:=1) (c:=(k:Int)+1) rfl rfl (QbE (by omega) (by omega)) (Qaa (Qad (V:=I6 ((k:Int)+1)) rfl (Qae ?_))))))))
  refine ⟨_,?_,_,k+1,Qal (Qap (ds:=(sq 4 21)) (by repeat (first|exact Agr.refl _ _|refine Agr.upd ?_ rfl|refine Agr.mix ?_ rfl))) rfl,(by omega),(Qix hok (Qni hv c6 c6r)),rfl,hs.take 1⟩
  omega
 replace c4:=QQ2 c4
 refine QaJ (Qag (Qbw [some 25,some 26,some 27,some 28,some 29,some 30,some 4] [] [0,1,3,7,15,31,63] [pv (I6 n),pv (.bool (decide (1<=n))),pv (.bool (decide (1<=n))),pg ((decide (1<=n)) == true) (I6 n),pg ((decide (1<=n)) == true) (.bool (decide (n<=16))),pv (.bool ((decide (1<=n))&&(decide (n<=16)))),pv (.bool ((decide (1<=n))&&(decide (n<=16))))] (fun _ _=>_) [6] (by kernel_rfl) hs ⟨?_,?_,?_,?_,?_,?_,?_,trivial⟩ ?_))
 ·exact oa [] fun D J w hs=>Qac (V:=.int .i64 n) rfl (Zz hs)
 ·exact oa [0] fun D J w hs=>QcZ rfl rfl (Zz hs)
 ·exact oa [1] fun D J w hs=>Qac (V:=.bool (decide (1<=n))) rfl (Zz hs)
 ·exact og [2] fun D J w hG hs=>Qac (V:=.int .i64 n) rfl (Zz hs)
 ·exact oy [2,3] [3] fun D J w hG hs=>QdZ rfl rfl (Zz hs)
 ·exact oa [2,4] fun D J w hs=>Qbn (h':=decide (n<=16)) rfl rfl rfl (Zz hs)
 ·exact oa [5] fun D J w hs=>Qad (V:=.bool ((decide (1<=n))&&(decide (n<=16)))) rfl (Zz hs)
 rintro J1 w7 J2 hJ hs
 replace hJ:J2=upd (mix (sq 25 6++[4]) J1 _) 4 (.bool ((decide (1<=n))&&(decide (n<=16)))):=hJ
 subst hJ
 refine Qaw ?_
 refine ⟨_,Qaq (V:=.bool ((decide (1<=n))&&(decide (n<=16)))) Tryz.results34 rfl,(Zr hs ?_)⟩
 exact congrArg Value.bool (Qg9 fun j hj=>hok j (by omega)).symm
theorem Qgd (w:World) (a b:Vec):Calls Tryz.prog 29 #[.agg (vc a).toArray,.agg (vc b).toArray] w (fun e w'=>e = .returned (.bool (vle a b))/\Own w no w' []):=by
 refine Qai (n:=17) Tryz.func29 rfl Tryz.ntmps29 rfl ?_
 have hs:=Own.start w
 refine Qag (Qab (Qaa (Qa4 (V:=.agg (vc a).toArray) (cs:=vc a) rfl rfl hs fun b1 w2 hs=>(Qaa (Qa4 (V:=.agg (vc b).toArray) (cs:=vc b) rfl rfl hs fun b3 w4 hs=>(Qaa (Qad (V:=.bool false) rfl (Qae (Qag (Qag (Qab (Qaa (Qad (V:=I6 0) rfl (Qae (Qan (QaD (fun J μ J' w'=>∃ (Jo:Env) (k:Nat),J'=upd (mix (sq 4 13) Jo J) 5 (I6 (k:Int))/\(k<=16)/\(∀ j:Nat,j<k->vat a j<=vat b j)/\μ=16-k/\Own w no w' [blk b1 (vc a) 24,blk b3 (vc b) 24]) ?_ ?_))))))))))))))))
 ·exact ⟨_,_,0,Qal (Qap (ds:=(sq 4 13)) (Agr.refl _ _)) rfl,(by omega),(fun j hj=>absurd hj (Nat.not_lt_zero j)),rfl,hs⟩
 rintro μ J' w5 ⟨Jo,k,rfl,hk,hle,rfl,hs⟩
 refine Qag (Qag (Qab (Qaa (Qac (V:=I6 (k:Int)) rfl (Qaa (Qa2 rfl rfl (Qae (Qam (t:=decide ((k:Int)<16)) rfl (fun c6=>?_) (fun c6=>?_)))))))))
 ·
  replace c6:=QQ1 c6
  refine Qao (Qag (Qan (Qag (QaH HM [some 10,some 11,some 12,some 13,some 14,some 15,some 16] [] [0,1,3,0,8,24,63] [pv (I6 (k:Int)),pv (.pointer (some ⟨b1,0+(k:Int).toNat,none⟩)),pv (.int .u32 (vat a k)),pv (I6 (k:Int)),pv (.pointer (some ⟨b3,0+(k:Int).toNat,none⟩)),pv (.int .u32 (vat b k)),pv (.bool (decide (vat b k<vat a k)))] (fun _ _=>_) [6] (by kernel_rfl) hs ⟨?_,?_,?_,?_,?_,?_,?_,trivial⟩ ?_))))
  ·exact oa [] fun D J w hs=>Qac (V:=.int .i64 (k:Int)) rfl (Zz hs)
  ·exact oa [0] fun D J w hs=>QbX QdT QaX.1 rfl rfl (by omega) (by omega) (Zz hs)
  ·exact oa [1] fun D J w hs=>QaQ (V:=.int .u32 (vat a k)) QaX hs 0 rfl rfl (QfY (by omega) (by omega)) (Zz hs)
  ·exact oa [] fun D J w hs=>Qac (V:=.int .i64 (k:Int)) rfl (Zz hs)
  ·exact oa [3] fun D J w hs=>QbX QdT QaX.1 rfl rfl (by omega) (by omega) (Zz hs)
  ·exact oa [4] fun D J w hs=>QaQ (V:=.int .u32 (vat b k)) QaX hs 1 rfl rfl (QfY (by omega) (by omega)) (Zz hs)
  ·exact oa [2,5] fun D J w hs=>Qb2 rfl rfl (Zz hs)
  rintro J1 w7 J2 hJ hs
  replace hJ:J2=upd (mix (sq 10 7) J1 _) 16 (.bool (decide (vat b k<vat a k))):=hJ
  subst hJ
  refine Qam (t:=decide (vat b k<vat a k)) rfl (fun c8=>?_) (fun c8=>?_)
  ·
   replace c8:=QQ1 c8
   refine Qag (Qab (Qaa (Qad (V:=.bool false) rfl (Qae (Qaw ?_)))))
   refine ⟨_,Qaq (V:=.bool false) Tryz.results29 rfl,(Zr hs ?_)⟩
   exact congrArg Value.bool (Qtd (k:=k) (by omega) c8).symm
  replace c8:=QQ2 c8
  refine Qao (Qab (Qaa (Qac (V:=I6 (k:Int)) rfl (Qaa (QaF (a:=(k:Int)) (b:=1) (c:=(k:Int)+1) rfl rfl (QbE (by omega) (by omega)) (Qaa (Qad (V:=I6 ((k:Int)+1)) rfl (Qae ?_))))))))
  refine ⟨_,?_,_,k+1,Qal (Qap (ds:=(sq 4 13)) (by repeat (first|exact Agr.refl _ _|refine Agr.upd ?_ rfl|refine Agr.mix ?_ rfl))) rfl,(by omega),(Qpr hle c8),rfl,hs.take 2⟩
  omega
 replace c6:=QQ2 c6
 refine QaJ (Qag (Qab (Qaa (Qad (V:=.bool true) rfl (Qae (Qaw ?_))))))
 refine ⟨_,Qaq (V:=.bool true) Tryz.results29 rfl,(Zr hs ?_)⟩
 exact congrArg Value.bool (Qhw fun j hj=>hle j (by omega)).symm
theorem Qpe (w:World) (a b:Vec):Calls Tryz.prog 104 #[.agg (vc a).toArray,.agg (vc b).toArray] w (fun e w'=>e = .returned (.agg (vc (vjoin a b)).toArray)/\Own w no w' []):=by
 refine Qai (n:=21) Tryz.func104 rfl Tryz.ntmps104 rfl ?_
 have hs:=Own.start w
 refine Qag (Qab (Qaa (Qa4 (V:=.agg (vc a).toArray) (cs:=vc a) rfl rfl hs fun b1 w2 hs=>(Qaa (Qa4 (V:=.agg (vc b).toArray) (cs:=vc b) rfl rfl hs fun b3 w4 hs=>(Qaa (QaK (cs:=vc vzero) Qpa rfl hs fun b5 w6 hs=>(Qae (Qag (Qag (Qab (Qaa (QaL (cs:=vc b) Qbk hs 1 rfl rfl rfl (Qaa (Qac (V:=I6 0) rfl (Qae (Qan (QaD (fun J μ J' w'=>∃ (Jo:Env) (k:Nat) (u:Vec),J'=upd (mix ([5,6]++sq 8 12) Jo J) 8 (I6 (k:Int))/\(k<=16)/\(u=QfA a b k)/\μ=16-k/\Own w no w' [blk b1 (vc u) 24,blk b3 (vc b) 24,blk b5 (vc vzero) 24]) ?_ ?_))))))))))))))))))
 ·exact ⟨_,_,0,a,Qal (Qap (ds:=([5,6]++sq 8 12)) (Agr.refl _ _)) rfl,(by omega),((QrU a b).symm),rfl,hs⟩
 rintro μ J' w7 ⟨Jo,k,u,rfl,hk,hu,rfl,hs⟩
 refine Qag (Qab (Qaa (Qa2 rfl rfl (Qae (Qag (Qam (t:=decide ((k:Int)<16)) rfl (fun c8=>?_) (fun c8=>?_)))))))
 ·
  replace c8:=QQ1 c8
  refine Qao (Qag (Qan (Qag (Qab (Qaa (Qac (V:=I6 (k:Int)) rfl (Qaa (Qji (V:=.int .u32 (vat b k)) QdT QaX rfl rfl (by omega) (by omega) (by rw [List.getElem?_toArray];exact Qhr _ _ (by omega)) ?_))))))))
  refine Qaa (Qad (V:=I6 (k:Int)) rfl (Qaa (Qad (V:=.int .u32 (vat b k)) rfl (Qae (Qab (Qaa (Qac (V:=I6 (k:Int)) rfl (Qaa (Qac (V:=I6 (k:Int)) rfl (Qaa (QbX QdT QaX.1 rfl rfl (by omega) (by omega) (Qaa (QaQ (V:=.int .u32 (vat u k)) QaX hs 0 rfl rfl (QfY (by omega) (by omega)) (Qaa (Qac (V:=.int .u32 (vat b k)) rfl (Qaa (Qo4 rfl rfl (Qaa (QbX QdT QaX.1 rfl rfl (by omega) (by omega) (Qaa (Qc0 (V:=.int .u32 (max (vat u k) (vat b k))) (cs':=vc (vset u k (max (vat u k) (vat b k)))) QaX hs 0 rfl rfl rfl rfl (Qsx (by omega)) (QmL (by omega) (by omega)) fun w9 hs=>?_)))))))))))))))))))))
  replace hs:Own w no w9 [blk b1 (vc (vset u k (max (vat u k) (vat b k)))) 24,blk b3 (vc b) 24,blk b5 (vc vzero) 24]:=hs
  refine Qae (Qab (Qaa (QaF (a:=(k:Int)) (b:=1) (c:=(k:Int)+1) rfl rfl (QbE (by omega) (by omega)) (Qaa (Qac (V:=I6 ((k:Int)+1)) rfl (Qae ?_))))))
  refine ⟨_,?_,_,k+1,vset u k (max (vat u k) (vat b k)),Qal (Qap (ds:=([5,6]++sq 8 12)) (by repeat (first|exact Agr.refl _ _|refine Agr.upd ?_ rfl|refine Agr.mix ?_ rfl))) rfl,(by omega),(by subst hu;exact Qlk (by omega)),rfl,hs.take 3⟩
  omega
 replace c8:=QQ2 c8
 refine QaJ (Qag (Qab (Qaa (QaL (cs:=vc u) Qbk hs 0 rfl rfl rfl (Qaa (Qcx (V:=.agg (vc u).toArray) (vs:=vc u) (cs':=vc u) Qbk.1 hs 2 rfl rfl rfl rfl rfl (QQ8 rfl) (QbO _) (Qaz rfl) fun w10 hs=>?_))))))
 replace hs:Own w no w10 [blk b1 (vc u) 24,blk b3 (vc b) 24,blk b5 (vc u) 24]:=hs
 refine Qae (Qaw ?_)
 refine ⟨_,QdH (cs:=vc u) Tryz.results104 Qbk hs 2 rfl rfl rfl,(Zr hs ?_)⟩
 rw [hu,show k=16 by omega,Qpc]
theorem QeS (w:World) (a b:Vec):Calls Tryz.prog 61 #[.agg (vc a).toArray,.agg (vc b).toArray] w (fun e w'=>e = .returned (.bool (vle a b))/\Own w no w' []):=by
 refine Qai (n:=10) Tryz.func61 rfl Tryz.ntmps61 rfl ?_
 have hs:=Own.start w
 refine Qag (Qab (Qaa (Qa4 (V:=.agg (vc a).toArray) (cs:=vc a) rfl rfl hs fun b1 w2 hs=>(Qaa (Qa4 (V:=.agg (vc b).toArray) (cs:=vc b) rfl rfl hs fun b3 w4 hs=>(Qaa (Qad (V:=.bool false) rfl (Qae (Qag (QaH HM [some 5,some 6,some 7,some 8,some 9,some 4] [] [0,0,3,0,15,31] [pv (.agg (vc a).toArray),pv (.agg (vc b).toArray),pv (.agg (vc (vjoin a b)).toArray),pv (.agg (vc b).toArray),pv (.bool (decide (vjoin a b=b))),pv (.bool (decide (vjoin a b=b)))] (fun _ _=>_) [5] (by kernel_rfl) hs ⟨?_,?_,?_,?_,?_,?_,trivial⟩ ?_))))))))))
 ·exact oa [] fun D J w hs=>QaL (cs:=vc a) Qbk hs 0 rfl rfl rfl (Zz hs)
 ·exact oa [] fun D J w hs=>QaL (cs:=vc b) Qbk hs 1 rfl rfl rfl (Zz hs)
 ·exact oa [0,1] fun D J w hs=>Qat (vs:=[.agg (vc a).toArray,.agg (vc b).toArray]) (V:=.agg (vc (vjoin a b)).toArray) Qtg rfl rfl (Qpe _ a b) hs fun _ hs=>Zz hs
 ·exact oa [] fun D J w hs=>QaL (cs:=vc b) Qbk hs 1 rfl rfl rfl (Zz hs)
 ·exact oa [2,3] fun D J w hs=>QoR (xs:=vc (vjoin a b)) (ys:=vc b) Tryz.eqGuardType24 (Qvm (vjoin a b) b) rfl rfl rfl (Zz hs)
 ·exact oa [4] fun D J w hs=>Qad (V:=.bool (decide (vjoin a b=b))) rfl (Zz hs)
 rintro J1 w6 J2 hJ hs
 replace hJ:J2=upd (mix [5,6,7,8,9,4] J1 _) 4 (.bool (decide (vjoin a b=b))):=hJ
 subst hJ
 refine Qaw ?_
 refine ⟨_,Qaq (V:=.bool (decide (vjoin a b=b))) Tryz.results61 rfl,(Zr hs ?_)⟩
 exact congrArg Value.bool (QqQ a b)
theorem Qra (w:World) (v:Vec) (hv:QbM v):Calls Tryz.prog 87 #[.agg (vc v).toArray] w (fun e w'=>e = .returned (.int .u64 (vsum v))/\Own w no w' []):=by
 refine Qai (n:=16) Tryz.func87 rfl Tryz.ntmps87 rfl ?_
 have hs:=Own.start w
 refine Qag (Qab (Qaa (Qa4 (V:=.agg (vc v).toArray) (cs:=vc v) rfl rfl hs fun b1 w2 hs=>(Qaa (Qad (V:=.int .u64 0) rfl (Qae (Qag (Qab (Qaa (Qad (V:=.int .u64 0) rfl (Qae (Qag (Qag (Qab (Qaa (QaL (cs:=vc v) Qbk hs 0 rfl rfl rfl (Qaa (Qac (V:=I6 0) rfl (Qae (Qan (QaD (fun J μ J' w'=>∃ (Jo:Env) (k:Nat) (n:Int),J'=upd (upd (mix ([3,5]++sq 7 8) Jo J) 7 (I6 (k:Int))) 3 (.int .u64 n)/\(k<=16)/\(n=QfC v k)/\(0<=n/\n<=(k:Int)*4294967296)/\μ=16-k/\Own w no w' [blk b1 (vc v) 24]) ?_ ?_)))))))))))))))))))))
 ·exact ⟨_,_,0,0,Qal (Qal (Qap (ds:=([3,5]++sq 7 8)) (Agr.refl _ _)) rfl) rfl,(by omega),rfl,(⟨by omega,by omega⟩),rfl,hs⟩
 rintro μ J' w3 ⟨Jo,k,n,rfl,hk,hn,hnb,rfl,hs⟩
 refine Qag (Qab (Qaa (Qa2 rfl rfl (Qae (Qag (Qam (t:=decide ((k:Int)<16)) rfl (fun c4=>?_) (fun c4=>?_)))))))
 ·
  replace c4:=QQ1 c4
  refine Qao (Qag (Qan (Qag ?_)))
  have hv1:=Qhd hv k
  refine Qab (Qaa (Qji (V:=.int .u32 (vat v k)) QdT QaX rfl rfl (by omega) (by omega) (by rw [List.getElem?_toArray];exact Qhr _ _ (by omega)) ?_))
  refine Qaa (Qad (V:=.int .u32 (vat v k)) rfl (Qae (Qab (Qaa (Qac (V:=.int .u64 n) rfl (Qaa (Qac (V:=.int .u32 (vat v k)) rfl (Qaa (Qcl QqR QsU rfl (QdO (by omega) (by omega)) (Qaa (QaF (a:=n) (b:=vat v k) (c:=n+(vat v k)) rfl rfl (QdO (by omega) (by omega)) (Qaa (Qad (V:=.int .u64 (n+(vat v k))) rfl (Qae (Qab (Qaa (QaF (a:=(k:Int)) (b:=1) (c:=(k:Int)+1) rfl rfl (QbE (by omega) (by omega)) (Qaa (Qac (V:=I6 ((k:Int)+1)) rfl (Qae ?_))))))))))))))))))))
  refine ⟨_,?_,_,k+1,n+(vat v k),Qal (Qal (Qap (ds:=([3,5]++sq 7 8)) (by repeat (first|exact Agr.refl _ _|refine Agr.upd ?_ rfl|refine Agr.mix ?_ rfl))) rfl) rfl,(by omega),(QkX hn),(⟨by omega,by omega⟩),rfl,hs.take 1⟩
  omega
 replace c4:=QQ2 c4
 refine QaJ (Qag (Qab (Qaa (Qac (V:=.int .u64 n) rfl (Qaa (Qad (V:=.int .u64 n) rfl (Qae (Qaw ?_))))))))
 refine ⟨_,Qaq (V:=.int .u64 n) Tryz.results87 rfl,(Zr hs ?_)⟩
 rw [hn,show k=16 by omega,Qp6]
end Tt
end Go.Proofs
