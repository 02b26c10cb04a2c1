/- A part of a proof: what functions of the program compute, and plain facts on that. -/
import Derived.Test.YtbjbjboehjdcaaaGreatCutsAbandonedP2
import Derived.Shelf.SlSortCmp.Xorshift
import Derived.Laws.Bits64b
import Derived.Sort.LotD5
import Derived.KernelRfl
import Derived.Test.YtbjbjboehjdcaaaGreatProg
import Derived.Laws.BytesArg
import Derived.Sort.EncStr
import Derived.MapKept
set_option linter.unusedVariables false
set_option linter.unusedSimpArgs false
set_option maxHeartbeats 4000000
set_option maxRecDepth 100000
namespace Go.Vx
open Go.RowKit Go.Shelf
theorem Own.drewN {w0 w:World} {M:Nat->Prop} {L:List Res} (h:Own w0 M w L) (n:Nat):Own w0 M (w.drewN n) L:=by
 obtain ⟨a,b,c,d,e,S,f,g,i,j⟩:=h
 exact ⟨a,⟨b.1,Nat.le_trans b.2 (Nat.le_add_right _ _)⟩,c,d,e,S,fun k R hk=>R.loc w _ _ (fun _ _=>rfl) (f k R hk),g,i,j⟩
theorem Qtv {P:Program} {J:Ren} (L:Go.Proofs.SlLaysF0.n48 P J) (T:TypeId) (w:World) (S:Nat->Prop) (rb X:Nat) (hX:X<18446744073709551616) (hR:(blk rb [.int .u64 ((X:Nat):Int)] T).holds w S) (hlt:∀ x,S x->x<w.heap.size) :
  Calls P (J.f 48) #[.pointer (some ⟨rb,0,none⟩)] w (fun e w'=>∃ _u:Unit,e = .returned (.int .u64 ((Sort.xorNextN X:Nat):Int))/\Own w S w' [blk rb [.int .u64 ((Sort.xorNextN X:Nat):Int)] T]/\True):=by
 have hs:=Own.lent hR hlt
 have hb:=hR.2
 refine (Go.Proofs.AnyF.xorshift_Next L rb 0 X hX w ?_ ?_).mono ?_
 ·rw [cell_of_row w rb 0 _ T _ hb];rfl
 ·exact frozen_of_row w rb 0 _ T hb
 ·rintro e w' ⟨he,rfl⟩
  refine ⟨(),he,?_,trivial⟩
  rw [setCell_eq_setRow w rb 0 _ T (0,0) _ hb]
  exact (hs.set_blk 0 rfl (cs':=[.int .u64 ((Sort.xorNextN X:Nat):Int)])).drewN 3
theorem Qs1 {P:Program} {J:Ren} (L:Go.Proofs.SlLaysF0.n47 P J) (w:World) (n:Nat) (hn:n<4611686018427387904) :
  Calls P (J.f 47) #[.int .i64 ((n:Nat):Int)] w (fun e w'=>e = .returned (.int .u64 (((1 <<< Sort.bitsLen n:Nat):Nat):Int))/\Own w no w' []) :=
 (Go.Proofs.AnyF.nextPowerOfTwo L n hn w).mono fun e w' ⟨he,hw⟩=>by subst hw;exact ⟨he,Own.start _⟩
theorem QrV {a b:Nat} (ha:a<18446744073709551616) (hb:b<18446744073709551616):bits .and .u64 (a:Int) (b:Int)=((a &&& b:Nat):Int):=bits_and_u64_nat a b ha hb
def bpS (lo len md:Nat) (s0:UInt64 × Array Int) (i0:Nat):Nat->UInt64 × Array Int
 | 0=>s0
 | q+1=>Sort.breakStep lo len md (bpS lo len md s0 i0 q) (i0+q)
def Qgt (lo len md r:Nat):Nat:=if (Sort.xorNextN r &&& (md-1)) ≥ len then (Sort.xorNextN r &&& (md-1))-len else Sort.xorNextN r &&& (md-1)
theorem Qkk {lo len md i0 q:Nat} {s0:UInt64 × Array Int}:((bpS lo len md s0 i0 (q+1)).1.toNat=Sort.xorNextN (bpS lo len md s0 i0 q).1.toNat)/\(bpS lo len md s0 i0 (q+1)).2=Sort.swp (bpS lo len md s0 i0 q).2 (i0+q) (lo+Qgt lo len md (bpS lo len md s0 i0 q).1.toNat):=by
 constructor
 ·show (Sort.xorNext _).toNat=_
  rw [Sort.xorNext_toNat]
 ·show Sort.swp _ _ _=_
  unfold Qgt
  rw [← Sort.xorNext_toNat]
theorem QqW {d:Array Int} {lo hi:Nat} (h:8<=hi-lo):(bpS lo (hi-lo) (1 <<< Sort.bitsLen (hi-lo)) (UInt64.ofNat (hi-lo),d) (lo+((hi-lo)/4)*2-1) 3).2=Sort.breakPatterns d lo hi:=by
 unfold Sort.breakPatterns
 dsimp only
 rw [if_pos h]
 rfl
theorem QtZ {n:Nat} (h:0<n):n<1 <<< Sort.bitsLen n/\1 <<< Sort.bitsLen n<=2*n:=by
 rw [Nat.one_shiftLeft];exact ⟨Sort.lt_two_pow_bitsLen n,Sort.two_pow_bitsLen_le h⟩
theorem QnX {lo len r:Nat} (h:0<len):Qgt lo len (1 <<< Sort.bitsLen len) r<len:=by
 have hm:=QtZ h
 have:=Nat.and_le_right (n:=Sort.xorNextN r) (m:=1 <<< Sort.bitsLen len-1)
 unfold Qgt;split<;>omega
end Go.Vx
namespace Go.Vx
open Go.RowKit Go.Shelf
def Qqv (P:Program) (f T:Nat):Prop:=∀ (w:World) (S:Nat->Prop) (rb X:Nat),X<18446744073709551616->(blk rb [.int .u64 ((X:Nat):Int)] T).holds w S->(∀ x,S x->x<w.heap.size) ->
  Calls P f #[.pointer (some ⟨rb,0,none⟩)] w (fun e w'=>∃ _u:Unit,e = .returned (.int .u64 ((Sort.xorNextN X:Nat):Int))/\Own w S w' [blk rb [.int .u64 ((Sort.xorNextN X:Nat):Int)] T]/\True)
def QrF (P:Program) (f:Nat):Prop:=∀ (w:World) (n:Nat),n<4611686018427387904->Calls P f #[.int .i64 ((n:Nat):Int)] w (fun e w'=>e = .returned (.int .u64 (((1 <<< Sort.bitsLen n:Nat):Nat):Int))/\Own w no w' [])
def QuX (P:Program) (f:Nat):Prop:=∀ (w:World) (n:Nat),n<4611686018427387904->Calls P f #[.int .u64 ((n:Nat):Int)] w (fun e w'=>e = .returned (.int .i64 ((Sort.bitsLen n:Nat):Int))/\Own w no w' [])
theorem Qj4 {lo len md i0 N:Nat} {s0:UInt64 × Array Int} (h:s0.2.size=N):∀ q,(bpS lo len md s0 i0 q).2.size=N
 | 0=>h
 | q+1=>by rw [Qkk.2,Sort.size_swp];exact Qj4 h q
end Go.Vx
namespace Go.Vx
open Go.RowKit
def QgI (P:Program) (f:Nat) (k:IntKind) (E:Nat):Prop:=∀ (w:World) (S:Nat->Prop) (a:Option Addr) (c:Nat) (l:List Int),(row (.slice a l.length c) (l.map (ic k)) E 1).holds w S->(∀ x,S x->x<w.heap.size)->l.length<=2305843009213693951 ->
  Calls P f #[.slice a l.length c] w fun e w'=>e = .returned (.tuple #[])/\Own w S w' [row (.slice a l.length c) ((Qa8 l).map (ic k)) E 1]
end Go.Vx
namespace Go.Proofs
open Go Go.Vx Go.RowKit
namespace Tt
theorem Qso:T1 Tryz.prog 211:=⟨Tryz.sizeOf211,Tryz.isAgg211⟩
theorem Qs5:En Tryz.prog 134:=Tryz.call134
theorem Qm5:En Tryz.prog 160:=Tryz.call160
theorem Qty:En Tryz.prog 162:=Tryz.call162
theorem QtM:En Tryz.prog 163:=Tryz.call163
theorem Qt7:En Tryz.prog 172:=Tryz.call172
theorem QsF:En Tryz.prog 173:=Tryz.call173
theorem Qsh:En Tryz.prog 174:=Tryz.call174
theorem QsC:En Tryz.prog 175:=Tryz.call175
theorem Qug:En Tryz.prog 176:=Tryz.call176
theorem Qt1:En Tryz.prog 177:=Tryz.call177
theorem Qc0:En Tryz.prog 178:=Tryz.call178
theorem QsG:En Tryz.prog 179:=Tryz.call179
theorem Qt9:En Tryz.prog 180:=Tryz.call180
theorem QpH:En Tryz.prog 185:=Tryz.call185
theorem QlO:En Tryz.prog 186:=Tryz.call186
theorem Qlm:En Tryz.prog 187:=Tryz.call187
theorem Qni:En Tryz.prog 189:=Tryz.call189
theorem QvU:En Tryz.prog 92:=Tryz.call92
theorem QsP:Ud Tryz.prog 211 (.int .u64):=Tryz.runUnderlying211
theorem QsH:Zv Tryz.prog 211 (.int .u64 0):=Tryz.zeroValue211
theorem Qv8:Zv Tryz.prog 3 (.int .i64 0):=Tryz.zeroValue3
end Tt
end Go.Proofs
namespace Go.Proofs
open Go Go.Vx Go.RowKit
namespace Tt
theorem Qqw:T1 Tryz.prog 69:=⟨Tryz.sizeOf69,Tryz.isAgg69⟩
theorem QtC:En Tryz.prog 133:=Tryz.call133
theorem QsY:En Tryz.prog 159:=Tryz.call159
theorem Qvz:En Tryz.prog 44:=Tryz.call44
theorem Qu7:En Tryz.prog 84:=Tryz.call84
theorem QuE:En Tryz.prog 89:=Tryz.call89
theorem Qn8:KeyOk Tryz.prog 32 (Value.int .u16):=QlV Tryz.runUnderlying32 _
end Tt
end Go.Proofs
namespace Go.Vx
structure Pst where
 base:Sta
 ops:List Opn
 known:Vec
def Qhv (kn:Vec) (l:List Opn) (i:Nat):Bool:=!QaN (gd l i) 16||Qby kn (gd l i).dot||((l.take i).any fun x=>decide (x.dot=(gd l i).dot))
def Qb2 (p:Pst):Bool:=((List.range p.ops.length).all fun i=>!Qhv p.base.known p.ops i)&&Qam p.base
def Qbc (p:Pst) (cut:Vec):Int:=if Qb2 p=false then 2 else if QaL cut 16=false then 13 else if vle cut p.known=false then 11 else if vle p.base.known cut=false then 12 else 0
theorem Qeb {p:Pst} {i:Nat} (hi:i<p.ops.length) (h:Qhv p.base.known p.ops i=true):Qb2 p=false:=by
 unfold Qb2
 have:((List.range p.ops.length).all fun i=>!Qhv p.base.known p.ops i)=false:=by
  rw [List.all_eq_false];exact ⟨i,List.mem_range.2 hi,by simp [h]⟩
 rw [this];rfl
theorem Qgq {p:Pst} (h:∀ i,i<p.ops.length->Qhv p.base.known p.ops i=false):Qb2 p=Qam p.base:=by
 unfold Qb2
 have:((List.range p.ops.length).all fun i=>!Qhv p.base.known p.ops i)=true:=by
  rw [List.all_eq_true];intro i hi;simp [h i (List.mem_range.1 hi)]
 rw [this,Bool.true_and]
def QcW (p:Pst):Prop:=QdG p.base/\(∀ o∈p.ops,Qdg o)/\QbW p.known
def QeN (b:Bool):Int:=if b=true then 1 else 0
theorem QnV {kn:Vec} {l:List Opn} {i j:Nat} (hi:i<l.length) (hj:j<i) (h:(gd l j).dot=(gd l i).dot):Qhv kn l i=true:=by
 unfold Qhv
 have:((l.take i).any fun x=>decide (x.dot=(gd l i).dot))=true:=by
  rw [List.any_eq_true]
  exact ⟨gd l j,List.mem_take_iff_getElem.2 ⟨j,by omega,by simp [gd,show j<l.length by omega]⟩,QQ3 h⟩
 rw [this,Bool.or_true]
theorem Qrm {kn:Vec} {l:List Opn} {i:Nat} (hi:i<l.length) (h1:(!QaN (gd l i) 16||Qby kn (gd l i).dot)=false) (h:∀ j,j<i->decide ((gd l j).dot=(gd l i).dot)=false):Qhv kn l i=false:=by
 unfold Qhv
 have:((l.take i).any fun x=>decide (x.dot=(gd l i).dot))=false:=by
  rw [List.any_eq_false]
  intro x hx
  obtain ⟨j,hj,rfl⟩:=List.mem_take_iff_getElem.1 hx
  have h2:=h j (by omega)
  rw [show gd l j=l[j] by simp [gd,show j<l.length by omega]] at h2
  simpa using h2
 rw [h1,this];rfl
def Qik (l:List Opn):List (Dot × Unit):=l.foldl (fun m e=>mput e.dot () m) []
theorem Qg9 (l:List Opn) (e:Opn):Qik (l++[e])=mput e.dot () (Qik l):=by unfold Qik;rw [List.foldl_append];rfl
theorem QiM (l:List Opn) (d:Dot):(mget d (Qik l)).isSome=l.any fun x=>decide (x.dot=d):=by
 refine Qbv (motive:=fun l=>(mget d (Qik l)).isSome=l.any fun x=>decide (x.dot=d)) rfl (fun l a ih=>?_) l
 rw [Qg9,Qgw,ih,List.any_append]
 simp only [List.any_cons,List.any_nil,Bool.or_false]
 rw [Bool.or_comm,show decide (d=a.dot)=decide (a.dot=d) from decide_eq_decide.2 eq_comm]
theorem Qld {l:List Opn} {k:Nat} (hk:k<l.length):Qik (l.take (k+1))=mput (gd l k).dot () (Qik (l.take k)):=by rw [Qbb hk,Qg9]
structure OpsC (kn:Vec) (l:List Opn):Prop where
 ok:∀ o∈l,Qcm o=true
 fr:∀ o∈l,Qby kn o.dot=false
 nd:(l.map (·.dot)).Nodup
theorem Qsi {kn:Vec} {l:List Opn} (h:∀ i,i<l.length->Qhv kn l i=false):OpsC kn l:=by
 have h3:∀ i,i<l.length->Qcm (gd l i)=true/\Qby kn (gd l i).dot=false/\((l.take i).any fun x=>decide (x.dot=(gd l i).dot))=false:=fun i hi=>by
  have:=h i hi
  unfold Qhv at this
  rw [Bool.or_eq_false_iff,Bool.or_eq_false_iff] at this
  exact ⟨by rw [← QkN];simpa using this.1.1,this.1.2,this.2⟩
 refine ⟨fun o ho=>?_,fun o ho=>?_,?_⟩
 ·obtain ⟨i,hi,rfl⟩:=List.mem_iff_getElem.1 ho
  have:=(h3 i hi).1;simpa [gd,hi] using this
 ·obtain ⟨i,hi,rfl⟩:=List.mem_iff_getElem.1 ho
  have:=(h3 i hi).2.1;simpa [gd,hi] using this
 refine List.pairwise_iff_getElem.2 fun i j hi hj hij=>?_
 rw [QQ6] at hi hj
 rw [List.getElem_map,List.getElem_map]
 intro e
 have h4:=(h3 j hj).2.2
 rw [List.any_eq_false] at h4
 have h5:=h4 l[i] (List.mem_take_iff_getElem.2 ⟨i,by omega,rfl⟩)
 simp [gd,hj] at h5
 exact h5 e
theorem Qcx {p:Pst} (h:Qb2 p=true):OpsC p.base.known p.ops/\RightC p.base:=by
 have hb:∀ i,i<p.ops.length->Qhv p.base.known p.ops i=false:=fun i hi=>by
  cases e:Qhv p.base.known p.ops i with
  | false=>rfl
  | true=>rw [Qeb hi e] at h;cases h
 exact ⟨Qsi hb,Qeh.1 (by rw [← Qgq hb];exact h)⟩
theorem QdW {p:Pst} {cut:Vec} (h:Qbc p cut=0):Qb2 p=true/\QaL cut 16=true/\vle cut p.known=true/\vle p.base.known cut=true:=by
 unfold Qbc at h
 cases h1:Qb2 p<;>cases h2:QaL cut 16<;>cases h3:vle cut p.known<;>cases h4:vle p.base.known cut<;>simp [h1,h2,h3,h4] at h ⊢
def QcM (u:List Opn) (x:Cen):Bool:=!(u.any fun o=>QaU o (Qbj x))
def Qbz (b:List Cen) (u:List Opn):List Cen:=b++(u.filter Qa0).map QhN
def Qk6 (b:List Cen) (u:List Opn):List Cen:=Qcd ((Qbz b u).filter (QcM u))
def QbN (s:List Lst) (u:List Opn):List Lst:=u.foldl (fun m o=>QcY o.cart o.tick m) s
def QhV (p:Pst) (cut:Vec):Sta:=⟨cut,Qk6 p.base.ents (Qal p.ops cut),QbN p.base.ticks (Qal p.ops cut)⟩
def Qag (p:Pst) (cut:Vec):Sta:=if Qbc p cut=0 then QhV p cut else szero
theorem Qb7 (s:List Lst) (u:List Opn) (o:Opn):QbN s (u++[o])=QcY o.cart o.tick (QbN s u):=by unfold QbN;rw [List.foldl_append];rfl
theorem Qcw {s:List Lst} (hs:Qdy s):∀ u:List Opn,Qdy (QbN s u):=by
 refine Qbv (motive:=fun t=>Qdy (QbN s t)) hs fun t x ih=>?_
 rw [Qb7];exact Qhm ih
theorem Qhf {s:List Lst}:∀ u:List Opn,(QbN s u).length<=s.length+u.length:=by
 refine Qbv (motive:=fun t=>(QbN s t).length<=s.length+t.length) (Nat.le_refl _) fun t x ih=>?_
 rw [Qb7,QQ7]
 have:=Qkf (c:=x.cart) (t:=x.tick) (QbN s t)
 simp;omega
theorem Qji {p:Pst} (h:Qb2 p=true) (cut:Vec):((Qbz p.base.ents (Qal p.ops cut)).map (·.dot)).Nodup:=by
 obtain ⟨ho,hb⟩:=Qcx h
 unfold Qbz
 rw [List.map_append,List.nodup_append]
 refine ⟨hb.nd,?_,?_⟩
 ·rw [List.map_map]
  exact ho.nd.sublist ((List.filter_sublist.trans List.filter_sublist).map _)
 intro d hd e he hde
 subst hde
 obtain ⟨x,hx,rfl⟩:=List.mem_map.1 hd
 rw [List.map_map] at he
 obtain ⟨o,hoM,e2⟩:=List.mem_map.1 he
 have h1:=ho.fr o (Qdv (List.mem_filter.1 hoM).1)
 have h2:=hb.ent x hx
 unfold Qdl at h2
 simp only [Bool.and_eq_true] at h2
 have h3:o.dot=x.dot:=e2
 rw [h3,h2.1.1.2] at h1
 cases h1
theorem Qdo {p:Pst} (h:Qb2 p=true) (cut:Vec):(((Qbz p.base.ents (Qal p.ops cut)).filter (QcM (Qal p.ops cut))).map (·.dot)).Nodup :=
 (Qji h cut).sublist (List.filter_sublist.map _)
theorem Qpq {p:Pst} (h:Qb2 p=true) {cut:Vec} {m:List Cen} (hm:Qj2 ((Qbz p.base.ents (Qal p.ops cut)).filter (QcM (Qal p.ops cut))) m):m=Qk6 p.base.ents (Qal p.ops cut) :=
 QqC (Qdo h cut) hm
theorem QhW {p:Pst} (h:Qb2 p=true) (cut:Vec) (x:Cen):x∈(QhV p cut).ents↔x∈Qbz p.base.ents (Qal p.ops cut)/\QcM (Qal p.ops cut) x=true:=by
 show x∈Qk6 _ _↔_
 unfold Qk6
 rw [(Qdn _ (Qdo h cut)).2,List.mem_filter]
def tk0 (ts:List Lst):List (Int × Int):=ts.foldl (fun m x=>mput x.cart x.tick m) []
def tkM (m:List (Int × Int)) (u:List Opn):List (Int × Int):=u.foldl (fun m o=>mput o.cart (max ((mget o.cart m).getD 0) o.tick) m) m
theorem Qo3 {ts:List Lst} {k:Nat} (hk:k<ts.length):tk0 (ts.take (k+1))=mput (gd ts k).cart (gd ts k).tick (tk0 (ts.take k)):=by
 rw [Qbb hk];unfold tk0;rw [List.foldl_append];rfl
theorem QhC (m:List (Int × Int)) (u:List Opn) (o:Opn):tkM m (u++[o])=mput o.cart (max ((mget o.cart (tkM m u)).getD 0) o.tick) (tkM m u):=by unfold tkM;rw [List.foldl_append];rfl
theorem QjC {k v:Int} {m:List (Int × Int)} (h:(m.map (·.1)).Nodup):((mput k v m).map (·.1)).Nodup:=by
 rw [Qcq]
 split
 ·exact h
 rename_i hn
 rw [List.nodup_append]
 exact ⟨h,by simp,fun a ha b hb e=>by simp at hb;subst hb;subst e;exact hn ha⟩
theorem QkE {ts:List Lst} {x:Lst} (h:∀ y∈ts,y.cart<x.cart) (c:Int):QaB (ts++[x]) c=if c=x.cart then some x.tick else QaB ts c:=by
 unfold QaB
 rw [List.find?_append]
 by_cases e:c=x.cart
 ·rw [if_pos e]
  have:(ts.find? fun y=>decide (y.cart=c))=none:=List.find?_eq_none.2 fun y hy=>by have:=h y hy;simp;omega
  rw [this];simp [e]
 rw [if_neg e]
 have:([x].find? fun y=>decide (y.cart=c))=none:=by simp;omega
 rw [this,Option.or_none]
theorem Qqh:∀ ts:List Lst,Qdy ts->((tk0 ts).map (·.1)).Nodup/\(∀ c,mget c (tk0 ts)=QaB ts c)/\(tk0 ts).length<=ts.length:=by
 refine Qbv (motive:=fun ts=>Qdy ts->((tk0 ts).map (·.1)).Nodup/\(∀ c,mget c (tk0 ts)=QaB ts c)/\(tk0 ts).length<=ts.length) (fun _=>⟨by simp [tk0],fun c=>rfl,Nat.le_refl _⟩) fun ts x ih hr=>?_
 obtain ⟨hr1,hr2⟩:Qdy ts/\∀ y∈ts,y.cart<x.cart:=by
  unfold Qdy at hr;rw [List.pairwise_append] at hr
  exact ⟨hr.1,fun y hy=>hr.2.2 y hy x (by simp)⟩
 obtain ⟨h1,h2,h3⟩:=ih hr1
 have e:tk0 (ts++[x])=mput x.cart x.tick (tk0 ts):=by unfold tk0;rw [List.foldl_append];rfl
 rw [e]
 refine ⟨QjC h1,fun c=>?_,?_⟩
 ·rw [Qd7,QkE hr2,h2]
 have:=Qka (k:=x.cart) (v:=x.tick) (l:=tk0 ts);rw [QQ7,List.length_singleton];omega
theorem QpE {s:List Lst} {m:List (Int × Int)} (hs:Qdy s) (hn:(m.map (·.1)).Nodup) (hm:∀ c,mget c m=QaB s c):∀ u:List Opn,(∀ o∈u,0<=o.tick)->((tkM m u).map (·.1)).Nodup/\(∀ c,mget c (tkM m u)=QaB (QbN s u) c)/\(tkM m u).length<=m.length+u.length:=by
 refine Qbv (motive:=fun u=>(∀ o∈u,0<=o.tick)->((tkM m u).map (·.1)).Nodup/\(∀ c,mget c (tkM m u)=QaB (QbN s u) c)/\(tkM m u).length<=m.length+u.length) (fun _=>⟨hn,hm,Nat.le_refl _⟩) fun u o ih ho=>?_
 obtain ⟨h1,h2,h3⟩:=ih fun x hx=>ho x (List.mem_append_left _ hx)
 rw [QhC,Qb7]
 refine ⟨QjC h1,fun c=>?_,?_⟩
 ·rw [Qd7,Qdq (Qcw hs u),h2]
  have h0:=ho o (by simp)
  by_cases e:c=o.cart
  ·rw [if_pos e,if_pos e]
   cases QaB (QbN s u) o.cart with
   | none=>simp;omega
   | some t=>rfl
  rw [if_neg e,if_neg e,h2]
 have:=Qka (k:=o.cart) (v:=max ((mget o.cart (tkM m u)).getD 0) o.tick) (l:=tkM m u);rw [QQ7,List.length_singleton];omega
def tkL (m:List (Int × Int)) (n:Int):Lst:=⟨n,(mget n m).getD 0⟩
theorem Qlr {t:List Lst} {m:List (Int × Int)} (ht:Qdy t) (hn:(m.map (·.1)).Nodup) (hm:∀ c,mget c m=QaB t c):(Qa8 (m.map (·.1))).map (tkL m)=t:=by
 have hr:Qdy ((Qa8 (m.map (·.1))).map (tkL m)):=List.pairwise_map.2 (Qfx hn)
 refine Qkt hr ht fun c=>?_
 by_cases e:c∈m.map (·.1)
 ·have h1:tkL m c∈(Qa8 (m.map (·.1))).map (tkL m):=List.mem_map.2 ⟨c,Qgp.2 e,rfl⟩
  have h2:=(Qea hr (tkL m c)).1 h1
  have h3:(mget c m).isSome=true:=by rw [Qcp];simpa using e
  have h4:QaB ((Qa8 (m.map (·.1))).map (tkL m)) c=some ((mget c m).getD 0):=h2
  rw [h4,← hm]
  cases h5:mget c m with
  | none=>rw [h5] at h3;cases h3
  | some v=>rfl
 have h3:(mget c m).isSome=false:=by rw [Qcp];simpa using e
 have h5:mget c m=none:=by cases h5:mget c m with|none=>rfl|some v=>rw [h5] at h3;cases h3
 rw [← hm,h5]
 unfold QaB
 rw [List.find?_eq_none.2 fun y hy=>?_]
 ·rfl
 obtain ⟨n,hn1,rfl⟩:=List.mem_map.1 hy
 have:=Qgp.1 hn1
 intro e2
 have e3:n=c:=QQ1 e2
 subst e3;exact e this
theorem Qjb {p:Pst} (h:Qb2 p=true) (ho:∀ o∈p.ops,Qdg o) (u:List Opn) (hu:∀ o∈u,o∈p.ops):(Qa8 ((tkM (tk0 p.base.ticks) u).map (·.1))).map (tkL (tkM (tk0 p.base.ticks) u))=QbN p.base.ticks u:=by
 obtain ⟨hc,hb⟩:=Qcx h
 obtain ⟨h1,h2,_⟩:=Qqh _ hb.rt
 obtain ⟨g1,g2,_⟩:=QpE hb.rt h1 h2 u fun o hm=>(ho o (hu o hm)).2.2.2.2.2.1.1
 exact Qlr (Qcw hb.rt u) g1 g2
theorem Qk0:∀ {l:List Cen},Qir l->(l.map (·.dot)).Nodup->Qcd l=l:=by
 intro l hl hn
 exact Qi0 (Qdn l hn).1 hl (Qdn l hn).2
end Go.Vx
namespace Go.Vx
theorem Qff {b:List Cen} {u:List Opn} {o:Opn} (h:Qa0 o=true):Qbz b u++[QhN o]=Qbz b (u++[o]):=by
 unfold Qbz;rw [List.filter_append,List.map_append,List.append_assoc];simp [h]
theorem QiN {b:List Cen} {u:List Opn} {o:Opn} (h:Qa0 o=false):Qbz b u=Qbz b (u++[o]):=by
 unfold Qbz;rw [List.filter_append,List.map_append];simp [h]
theorem Qfj {b:List Cen} {u:List Opn} {x:Cen} (h:x∈Qbz b u):x∈b∨∃ o∈u,Qa0 o=true/\x=QhN o:=by
 unfold Qbz at h
 rcases List.mem_append.1 h with h|h
 ·exact .inl h
 obtain ⟨o,ho,rfl⟩:=List.mem_map.1 h
 have:=List.mem_filter.1 ho
 exact .inr ⟨o,this.1,this.2,rfl⟩
theorem Qk8 {p:Pst} (hok:QcW p) {u:List Opn} (hu:∀ o∈u,o∈p.ops):∀ x∈Qbz p.base.ents u,QcU x.dot:=by
 intro x hx
 rcases Qfj hx with h|⟨o,ho,_,rfl⟩
 ·exact (hok.1.2.1 x h).2.2.2.2.1
 exact (hok.2.1 o (hu o ho)).1
theorem QkY (b:List Cen) (u:List Opn):(Qbz b u).length<=b.length+u.length:=by
 unfold Qbz;rw [QQ7,QQ6];have:=List.length_filter_le Qa0 u;omega
theorem QiK {p:Pst} {cut:Vec} (h:¬Qbc p cut=0):Qag p cut=szero:=if_neg h
theorem QkU {p:Pst} {cut:Vec} {u:List Opn} {m:List Cen} {T:List Lst} (hok:QcW p) (hI:Qbc p cut=0) (hu:u=Qal p.ops cut) (hm:Qj2 ((Qbz p.base.ents u).filter (QcM u)) m) (hT:T=(Qa8 ((tkM (tk0 p.base.ticks) u).map (·.1))).map (tkL (tkM (tk0 p.base.ticks) u))):Qag p cut=⟨cut,m,T⟩:=by
 have hr:=(QdW hI).1
 subst hu
 have hE:=Qpq hr hm
 have hT2:=Qjb hr hok.2.1 (Qal p.ops cut) fun o h=>Qdv h
 unfold Qag;rw [if_pos hI,hE,hT,hT2];rfl
theorem QrC {p:Pst} (hok:QcW p) (h:Qb2 p=true) (u:List Opn) (hu:∀ o∈u,o∈p.ops):(tkM (tk0 p.base.ticks) u).length<=p.base.ticks.length+u.length:=by
 obtain ⟨hc,hb⟩:=Qcx h
 obtain ⟨h1,h2,h3⟩:=Qqh _ hb.rt
 obtain ⟨g1,g2,g3⟩:=QpE hb.rt h1 h2 u fun o hm=>(hok.2.1 o (hu o hm)).2.2.2.2.2.1.1
 omega
end Go.Vx
namespace Go.Vx
theorem Qjd {p:Pst} {cut:Vec} {u:List Opn} {L m:List Cen} {T:List Lst} {tm:List (Int × Int)} (hok:QcW p) (hI:Qbc p cut=0) (hu:u=Qal p.ops cut) (hL:L=Qbz p.base.ents u) (hm:Qj2 (L.filter (QcM u)) m) (ht:tm=tkM (tk0 p.base.ticks) u) (hT:T=(Qa8 (tm.map (·.1))).map (tkL tm)):Qag p cut=⟨cut,m,T⟩:=by
 subst hL;subst ht
 exact QkU hok hI hu hm hT
end Go.Vx
namespace Go.Vx
theorem Qj3 {u:List Opn} {o:Opn}:QcM u (QhN o) = !(u.any fun x=>QaU x o):=rfl
theorem QiC {u:List Opn} {x:Cen}:QcM u x = !(u.any fun o=>QaU o (Qbj x)):=rfl
theorem QmQ {p:Pst} (h:Qb2 p=true) (u:List Opn) {L:List Cen} (hL:L=p.base.ents.filter (QcM u)):L=Qcd ((Qbz p.base.ents []).filter (QcM u)):=by
 obtain ⟨_,hb⟩:=Qcx h
 have e:Qbz p.base.ents []=p.base.ents:=by simp [Qbz]
 rw [e,Qk0 (List.Pairwise.sublist List.filter_sublist hb.re) (hb.nd.sublist (List.filter_sublist.map _)),hL]
theorem Qrl {b:List Cen} {u:List Opn} {k:Nat} {L:List Cen} (h:L=Qcd ((Qbz b (u.take k)).filter (QcM u))) (hk:k<u.length) (h1:Qa0 (gd u k)=true) (h2:(u.any fun x=>QaU x (gd u k))=false):QdB (QhN (gd u k)) L=Qcd ((Qbz b (u.take (k+1))).filter (QcM u)):=by
 rw [Qbb hk,← Qff h1,List.filter_append]
 have:QcM u (QhN (gd u k))=true:=by rw [Qj3,h2];rfl
 rw [show List.filter (QcM u) [QhN (gd u k)]=[QhN (gd u k)] by simp [this],QeF,← h]
theorem QnS {b:List Cen} {u:List Opn} {k:Nat} {L:List Cen} (h:L=Qcd ((Qbz b (u.take k)).filter (QcM u))) (hk:k<u.length) (h1:(Qa0 (gd u k)&&!(u.any fun x=>QaU x (gd u k)))=false):L=Qcd ((Qbz b (u.take (k+1))).filter (QcM u)):=by
 rw [Qbb hk]
 cases h2:Qa0 (gd u k) with
 | false=>rw [← QiN h2,← h]
 | true =>
  rw [← Qff h2,List.filter_append]
  have:QcM u (QhN (gd u k))=false:=by rw [Qj3];simpa [h2] using h1
  rw [show List.filter (QcM u) [QhN (gd u k)]=[] by simp [this],List.append_nil,← h]
theorem QiH {s:List Lst} {u:List Opn} {k:Nat} {T:List Lst} (h:T=QbN s (u.take k)) (hk:k<u.length):QcY (gd u k).cart (gd u k).tick T=QbN s (u.take (k+1)):=by
 rw [Qbb hk,Qb7,← h]
theorem Qll {p:Pst} {cut:Vec} {k:Nat} {L:List Cen} {T:List Lst} (hI:Qbc p cut=0) (hk:¬k<(Qal p.ops cut).length) (hL:L=Qcd ((Qbz p.base.ents ((Qal p.ops cut).take k)).filter (QcM (Qal p.ops cut)))) (hT:T=QbN p.base.ticks ((Qal p.ops cut).take k)):Qag p cut=⟨cut,L,T⟩:=by
 rw [Qcc hk] at hL hT
 unfold Qag;rw [if_pos hI,hL,hT];rfl
end Go.Vx
namespace Go.Proofs
open Go Go.Vx Go.RowKit
namespace Tt
theorem Qfh:T1 Tryz.prog 29:=⟨Tryz.sizeOf29,Tryz.isAgg29⟩
theorem QkB:TA Tryz.prog 31 35:=⟨Tryz.sizeOf31,Tryz.isAgg31⟩
theorem QeH:TA Tryz.prog 43 35:=⟨Tryz.sizeOf43,Tryz.isAgg43⟩
theorem Qvk:En Tryz.prog 59:=Tryz.call59
theorem QvB:En Tryz.prog 62:=Tryz.call62
theorem QuF:En Tryz.prog 97:=Tryz.call97
theorem QdZ:FA Tryz.prog 31 0 0:=fun b o w=>by simp [Instr.fieldAt,Instr.sureAddr,fieldPlace,QaV]
theorem Qd2:FA Tryz.prog 31 1 18:=fun b o w=>by simp [Instr.fieldAt,Instr.sureAddr,fieldPlace,QaV]
theorem QmE:FA Tryz.prog 31 2 19:=fun b o w=>by simp [Instr.fieldAt,Instr.sureAddr,fieldPlace,QaV]
theorem QfU:FA Tryz.prog 43 0 0:=fun b o w=>by simp [Instr.fieldAt,Instr.sureAddr,fieldPlace,QaV]
theorem QlU:FA Tryz.prog 43 1 18:=fun b o w=>by simp [Instr.fieldAt,Instr.sureAddr,fieldPlace,QaV]
theorem Qra:FA Tryz.prog 43 2 19:=fun b o w=>by simp [Instr.fieldAt,Instr.sureAddr,fieldPlace,QaV]
end Tt
end Go.Proofs
namespace Go.Vx
open Go.RowKit
abbrev Str:=List UInt8
end Go.Vx
namespace Go.Vx
open Go.RowKit
abbrev Pt:=Option Addr
abbrev pt (p:Nat):Pt:=some ⟨p,0,none⟩
structure Thg where
 p:Nat
 bs:List Int
 sf:Nat
structure Chg where
 to:Str
 fr:Str
 t:Pt
structure Dk where
 room:Int
 ts:List Thg
 nm:List (Str × Pt)
 sf:List (Str × Pt)
 ch:List Chg
instance:Inhabited Thg:=⟨⟨0,[],0⟩⟩
instance:Inhabited Chg:=⟨⟨[],[],none⟩⟩
def pts (ts:List Thg):List Pt:=ts.map fun t=>pt t.p
def doC (l:List (Str × Pt)) (c:Chg):List (Str × Pt) :=
 let l1:=if c.fr=[] then l else mdel c.fr l
 match c.t with
 | none=>mdel c.to l1
 | some a=>mput c.to (some a) l1
def QgJ (l:List (Str × Pt)) (cs:List Chg):List (Str × Pt):=cs.foldl doC l
def Qv7 (m:Dk) (c:Chg):Dk:={ m with nm:=doC m.nm c,ch:=m.ch++[c] }
section
variable (TD TT U8 TP TC:Nat)
def thP (t:Thg) (a:Option Addr) (c:Nat):List Res:=[blk t.p [.slice a t.bs.length c,.int .i64 ((t.sf:Nat):Int)] TT,row (.slice a t.bs.length c) (t.bs.map (ic .u8)) U8 1]
def thR (t:Thg):Res:=exR fun x:Option Addr × Nat=>star (thP TT U8 t x.1 x.2)
structure DkA where
 a:Option Addr
 c:Nat
 r1:Nat
 r2:Nat
 a2:Option Addr
 c2:Nat
end
section
variable {TD TT U8 TP TC:Nat} {w w0:World} {M:Nat->Prop} {L:List Res}
theorem Qpy {w:World} {S:Nat->Prop}:∀ {ts:List Thg},(star (ts.map (thR TT U8))).holds w S->(ts.map (·.p)).Nodup/\∀ t∈ts,S t.p:=by
 intro ts ⟨T,t1,t2,t3⟩
 have h1:∀ (i:Nat) t,ts[i]?=some t->T i t.p:=by
  intro i t hi
  obtain ⟨x,T2,u1,u2,u3⟩:=t1 i (thR TT U8 t) (by rw [List.getElem?_map,hi];rfl)
  have:=(u1 0 _ rfl).1
  exact (u3 _).2 ⟨0,by simp [thP],this⟩
 refine ⟨?_,fun t ht=>?_⟩
 ·unfold List.Nodup
  rw [List.pairwise_iff_getElem]
  intro i j hi hj hij he
  simp only [QQ6] at hj
  simp only [List.getElem_map] at he
  have a1:=h1 i _ (List.getElem?_eq_getElem (Nat.lt_trans hij hj))
  have a2:=h1 j _ (List.getElem?_eq_getElem hj)
  rw [he] at a1
  have:=t2 i j _ a1 a2
  omega
 obtain ⟨i,hi⟩:=List.mem_iff_getElem?.1 ht
 exact (t3 _).2 ⟨i,by have:=QaX hi;simpa using this,h1 i t hi⟩
theorem Own.things (h:Own w0 M w L) (k:Nat) {ts:List Thg} (hk:L[k]?=some (star (ts.map (thR TT U8)))):(ts.map (·.p)).Nodup:=by
 obtain ⟨S,hS,_⟩:=h.get k hk
 exact (Qpy hS).1
def ThF (w:World) (ts:List Thg):Prop:=∀ t∈ts,∃ a c,Qcf w t.p [.slice a t.bs.length c,.int .i64 ((t.sf:Nat):Int)]/\Rd w (.slice a t.bs.length c) 1 (t.bs.map (ic .u8))
theorem ThF.own' {ts:List Thg} (h:ThF w0 ts) (hs:Own w0 no w L):ThF w ts:=fun t ht=>by
 obtain ⟨a,c,h1,h2⟩:=h t ht
 exact ⟨a,c,h1.own' hs,h2.own' hs⟩
end
end Go.Vx
namespace Go.Vx
open Go.RowKit
theorem Qqp {ts:List Thg} {i:Nat} {t t':Thg} (hi:ts[i]?=some t) (hp:t'.p=t.p):pts (ts.set i t')=pts ts:=by
 unfold pts
 rw [List.map_set,hp]
 apply List.ext_getElem?
 intro j
 rw [List.getElem?_set]
 by_cases q:i=j
 ·subst q;have:=QaX hi;simp [this,List.getElem?_eq_getElem this] at hi ⊢;rw [hi]
 rw [if_neg q]
def Qv3 (m:Dk) (s:Str) (p:Nat) (bs:List Int):Dk:={ m with ts:=m.ts++[⟨p,bs,0⟩],nm:=doC m.nm ⟨s,[],pt p⟩,ch:=m.ch++[⟨s,[],pt p⟩] }
end Go.Vx
namespace Go.Vx
open Go.RowKit
section
variable {κ ν:Type} [DecidableEq κ]
theorem Qf0 (k:κ) (v:ν):∀ (l:List (κ × ν)),(mput k v l).map (·.1)=if k∈l.map (·.1) then l.map (·.1) else l.map (·.1)++[k]
 | []=>by simp [mput]
 | (a,b) :: l=>by
  unfold mput
  split
  ·rename_i e;subst e;simp
  rename_i e
  simp only [List.map_cons,Qf0 k v l,List.mem_cons,e,false_or]
  split<;>simp
theorem Qee {k:κ} {v:ν} {x:κ × ν}:∀ {l:List (κ × ν)},x∈mput k v l->x=(k,v)∨x∈l
 | [],h=>by simp [mput] at h;exact .inl h
 | (a,b) :: l,h=>by
  unfold mput at h
  split at h
  ·rcases List.mem_cons.1 h with e|e
   ·exact .inl e
   exact .inr (List.mem_cons_of_mem _ e)
  rcases List.mem_cons.1 h with e|e
  ·exact .inr (e ▸ List.mem_cons_self)
  rcases Qee e with e|e
  ·exact .inl e
  exact .inr (List.mem_cons_of_mem _ e)
theorem QfX {k:κ} {v:ν}:∀ {l:List (κ × ν)},(l.map (·.2)).Nodup->v ∉ l.map (·.2)->((mput k v l).map (·.2)).Nodup
 | [],_,_=>by simp [mput]
 | (a,b) :: l,hn,hv=>by
  simp only [List.map_cons,List.nodup_cons,List.mem_cons,not_or] at hn hv
  unfold mput
  split
  ·simp only [List.map_cons,List.nodup_cons];exact ⟨hv.2,hn.2⟩
  simp only [List.map_cons,List.nodup_cons]
  refine ⟨fun h=>?_,QfX hn.2 hv.2⟩
  obtain ⟨x,hx,he⟩:=List.mem_map.1 h
  rcases Qee hx with e|e
  ·subst e;exact hv.1 he
  exact hn.1 (List.mem_map.2 ⟨x,e,he⟩)
theorem QgA {k:κ} {v:ν} {j:κ}:∀ {l:List (κ × ν)},mget j (mput k v l)=if j=k then some v else mget j l
 | []=>by unfold mput mget;simp [mget]
 | (a,b) :: l=>by
  unfold mput
  split
  ·rename_i e;subst e
   unfold mget
   by_cases h:j=k<;>simp [h]
  rename_i e
  unfold mget
  by_cases h:j=a
  ·subst h;simp [show ¬j=k from fun e2=>e e2.symm]
  rw [if_neg h,QgA];simp [h]
end
structure KOk (ts:List Thg) (l:List (Str × Pt)):Prop where
 keys:(l.map (·.1)).Nodup
 vals:(l.map (·.2)).Nodup
 some:∀ x∈l,x.2∈pts ts
 long:∀ x∈l,1<=x.1.length
theorem KOk.nil (ts:List Thg):KOk ts []:=⟨by simp,by simp,by simp,by simp⟩
theorem KOk.to {ts ts':List Thg} {l:List (Str × Pt)} (h:KOk ts l) (hp:∀ x∈pts ts,x∈pts ts'):KOk ts' l:=⟨h.keys,h.vals,fun x hx=>hp _ (h.some x hx),h.long⟩
theorem KOk.put {ts:List Thg} {l:List (Str × Pt)} (h:KOk ts l) {s:Str} (hs:1<=s.length) {v:Pt} (hv:v ∉ l.map (·.2)) (ht:v∈pts ts):KOk ts (mput s v l):=by
 refine ⟨?_,QfX h.vals hv,fun x hx=>?_,fun x hx=>?_⟩
 ·rw [Qf0]
  split
  ·exact h.keys
  rename_i q
  rw [List.nodup_append]
  exact ⟨h.keys,by simp,by intro a ha b hb;simp at hb;subst hb;exact fun e=>q (e ▸ ha)⟩
 ·rcases Qee hx with e|e
  ·subst e;exact ht
  exact h.some x e
 rcases Qee hx with e|e
 ·subst e;exact hs
 exact h.long x e
structure DOk (N:Nat) (m:Dk):Prop where
 nm:m.nm=QgJ m.sf m.ch
 keys:∀ k,k<=m.ch.length->KOk m.ts (QgJ m.sf (m.ch.take k))
 chs:∀ k∈m.ch,k.t=none∨∃ p,k.t=pt p
 safe:∀ t∈m.ts,t.sf<=t.bs.length
 nts:m.ts.length<=N
 nch:m.ch.length<=N
 bytes:(m.ts.map (·.bs.length)).sum<=1000*N
theorem DOk.now {N:Nat} {m:Dk} (h:DOk N m):KOk m.ts m.nm:=by
 have:=h.keys m.ch.length (Nat.le_refl _)
 rw [List.take_length,← h.nm] at this
 exact this
theorem DOk.mono {N N':Nat} {m:Dk} (h:DOk N m) (hn:N<=N'):DOk N' m:=⟨h.nm,h.keys,h.chs,h.safe,by have:=h.nts;omega,by have:=h.nch;omega,by have:=h.bytes;omega⟩
theorem DOk.new (room:Int):DOk 0 ⟨room,[],[],[],[]⟩:=⟨rfl,fun k hk=>by simp [QgJ];exact KOk.nil _,by simp,by simp,Nat.le_refl _,Nat.le_refl _,by simp⟩
theorem Qr9 {ts:List Thg} {t:Thg} (h:t∈ts):t.bs.length<=(ts.map (·.bs.length)).sum:=by
 induction ts with
 | nil=>cases h
 | cons u ts ih =>
  simp only [List.map_cons,List.sum_cons]
  rcases List.mem_cons.1 h with e|e
  ·subst e;omega
  have:=ih e;omega
theorem DOk.len {N:Nat} {m:Dk} (h:DOk N m) {t:Thg} (ht:t∈m.ts):t.bs.length<=1000*N:=Nat.le_trans (Qr9 ht) h.bytes
theorem QjY {α:Type} {l:List α} {a:α} {k:Nat} (h:k<=l.length):(l++[a]).take k=l.take k:=by
 rw [List.take_append_of_le_length h]
theorem QeM (l:List (Str × Pt)) (cs:List Chg) (c:Chg):QgJ l (cs++[c])=doC (QgJ l cs) c:=by simp [QgJ]
theorem DOk.chg {N:Nat} {m:Dk} (h:DOk N m) {c:Chg} (hc:c.t=none∨∃ p,c.t=pt p) (hk:KOk m.ts (doC m.nm c)):DOk (N+1) (Qv7 m c):=by
 refine ⟨?_,fun k hkl=>?_,fun k hk1=>?_,h.safe,by have:=h.nts;show m.ts.length<=N+1;omega,by have:=h.nch;show (m.ch++[c]).length<=N+1;simp;omega,by have:=h.bytes;show (m.ts.map (·.bs.length)).sum<=1000*(N+1);omega⟩
 ·show doC m.nm c=QgJ m.sf (m.ch++[c])
  rw [QeM,← h.nm]
 ·show KOk m.ts (QgJ m.sf ((m.ch++[c]).take k))
  have hkl':k<=m.ch.length+1:=by have:k<=(m.ch++[c]).length:=hkl;simpa using this
  by_cases q:k<=m.ch.length
  ·rw [QjY q];exact h.keys k q
  have:k=(m.ch++[c]).length:=by simp;omega
  rw [this,List.take_length,QeM,← h.nm];exact hk
 have:k∈m.ch++[c]:=hk1
 rcases List.mem_append.1 this with e|e
 ·exact h.chs k e
 simp at e;subst e;exact hc
theorem DOk.things {N:Nat} {m:Dk} {ts:List Thg} (h:DOk N m) (hp:pts ts=pts m.ts) (hs:∀ t∈ts,t.sf<=t.bs.length) (hb:(ts.map (·.bs.length)).sum<=1000*(N+1)):DOk (N+1) { m with ts:=ts }:=by
 have hl:ts.length=m.ts.length:=by have:=congrArg List.length hp;simpa [pts] using this
 exact ⟨h.nm,fun k hk=>(h.keys k hk).to (by intro x hx;show x∈pts ts;rw [hp];exact hx),h.chs,hs,by have:=h.nts;show ts.length<=N+1;omega,by have:=h.nch;show m.ch.length<=N+1;omega,hb⟩
theorem QmC {l:List (Str × Pt)} {s:Str} {p:Nat}:doC l ⟨s,[],pt p⟩=mput s (pt p) l:=by unfold doC;simp
theorem DOk.newT {N:Nat} {m:Dk} (h:DOk N m) {s:Str} {p:Nat} {bs:List Int} (hs:1<=s.length) (hp:∀ t∈m.ts,t.p≠p) (hb:bs.length<=1000):DOk (N+1) (Qv3 m s p bs):=by
 have hpts:pts (m.ts++[(⟨p,bs,0⟩:Thg)])=pts m.ts++[pt p]:=by simp [pts]
 have hno:pt p ∉ pts m.ts:=fun hx=>by
  obtain ⟨t,ht,he⟩:=List.mem_map.1 hx
  simp at he;exact hp t ht he
 have hto:∀ x∈pts m.ts,x∈pts (m.ts++[(⟨p,bs,0⟩:Thg)]):=fun x hx=>by rw [hpts];simp [hx]
 have hput:KOk (m.ts++[(⟨p,bs,0⟩:Thg)]) (doC m.nm ⟨s,[],pt p⟩):=by
  rw [QmC]
  exact (h.now.to hto).put hs (fun hx=>by obtain ⟨y,hy,he⟩:=List.mem_map.1 hx;exact hno (he ▸ h.now.some y hy)) (by rw [hpts];simp)
 refine ⟨?_,fun k hkl=>?_,fun k hk1=>?_,fun t ht=>?_,?_,?_,?_⟩
 ·show doC m.nm ⟨s,[],pt p⟩=QgJ m.sf (m.ch++[(⟨s,[],pt p⟩:Chg)])
  rw [QeM,← h.nm]
 ·show KOk (m.ts++[(⟨p,bs,0⟩:Thg)]) (QgJ m.sf ((m.ch++[(⟨s,[],pt p⟩:Chg)]).take k))
  have hkl':k<=m.ch.length+1:=by have:k<=(m.ch++[(⟨s,[],pt p⟩:Chg)]).length:=hkl;simpa using this
  by_cases q:k<=m.ch.length
  ·rw [QjY q];exact (h.keys k q).to hto
  have:k=(m.ch++[(⟨s,[],pt p⟩:Chg)]).length:=by simp;omega
  rw [this,List.take_length,QeM,← h.nm];exact hput
 ·have:k∈m.ch++[(⟨s,[],pt p⟩:Chg)]:=hk1
  rcases List.mem_append.1 this with e|e
  ·exact h.chs k e
  rw [List.mem_singleton] at e;subst e;exact .inr ⟨p,rfl⟩
 ·have:t∈m.ts++[(⟨p,bs,0⟩:Thg)]:=ht
  rcases List.mem_append.1 this with e|e
  ·exact h.safe t e
  simp at e;subst e;simp
 ·have:=h.nts;show (m.ts++[(⟨p,bs,0⟩:Thg)]).length<=N+1;simp;omega
 ·have:=h.nch;show (m.ch++[(⟨s,[],pt p⟩:Chg)]).length<=N+1;simp;omega
 have:=h.bytes;show ((m.ts++[(⟨p,bs,0⟩:Thg)]).map (·.bs.length)).sum<=1000*(N+1);simp;omega
theorem Qow {ts:List Thg} {i:Nat} {t t':Thg} (hi:ts[i]?=some t):((ts.set i t').map (·.bs.length)).sum+t.bs.length=(ts.map (·.bs.length)).sum+t'.bs.length:=by
 induction ts generalizing i with
 | nil=>simp at hi
 | cons u ts ih =>
  cases i with
  | zero=>simp at hi;subst hi;simp;omega
  | succ i=>have:=ih (i:=i) (by simpa using hi);simp at this ⊢;omega
theorem DOk.app {N:Nat} {m:Dk} (h:DOk N m) {i:Nat} {t:Thg} (hi:m.ts[i]?=some t) {bs:List Int} (hb:bs.length<=1000):DOk (N+1) { m with ts:=m.ts.set i { t with bs:=t.bs++bs } }:=by
 refine h.things (Qqp hi rfl) (fun u hu=>?_) ?_
 ·rcases List.mem_or_eq_of_mem_set hu with e|e
  ·exact h.safe u e
  subst e;have:=h.safe t (List.mem_of_getElem? hi);simp;omega
 have:=Qow (t':={ t with bs:=t.bs++bs }) hi
 have:=h.bytes
 simp only [QQ7] at *
 omega
end Go.Vx
namespace Go.Vx
open Go.RowKit
def RdX (w:World) (v:Value) (k:Nat) (ls:List (List Value)):Prop:=Rd w v k ls∨(ls=[]/\∃ a,v = .slice (some a) 0 0)
section
variable {w w0:World} {M:Nat->Prop} {L:List Res} {v:Value} {k:Nat} {ls:List (List Value)}
theorem Rd.emp_own (h:Rd w v k []) (w':World):Rd w' v k []:=⟨h.len,h.small,h.shape,by simp,h.room⟩
theorem RdX.own (h:RdX w0 v k ls) (hs:Own w0 M w L) (hm:ls≠[]->¬M (bkS v)):RdX w v k ls:=by
 rcases h with h|h
 ·by_cases q:ls=[]
  ·subst q;exact .inl (h.emp_own w)
  exact .inl (h.own hs (hm q))
 exact .inr h
theorem RdX.own' (h:RdX w0 v k ls) (hs:Own w0 no w L):RdX w v k ls:=h.own hs (fun _ h=>h)
theorem RdX.pos (h:RdX w v k ls) (hp:ls.length≠0):Rd w v k ls:=by
 rcases h with h|h
 ·exact h
 exact absurd (by rw [h.1];rfl) hp
theorem RdX.sml {α:Type} {enc:α->List Value} {l:List α} (h:RdX w v k (l.map enc)):l.length<=9223372036854775807:=by
 rcases h with h|⟨h,_⟩
 ·exact h.sml
 have:l=[]:=by simpa using h
 subst this;simp
theorem RdX.old (h:RdX w v k ls) (hk:0<k) (hp:ls≠[]):bkS v<w.heap.size:=by
 have h1:=h.pos (by intro e;exact hp (List.eq_nil_of_length_eq_zero e))
 rcases h1.shape with ⟨_,e⟩|⟨b,o,c,rfl⟩
 ·exact absurd e hp
 cases ls with
 | nil=>exact absurd rfl hp
 | cons l ls =>
  have hl:=h1.len l (by simp)
  have h2:=h1.cell 0 0 l (l[0]'(by omega)) (by simp) (List.getElem?_eq_getElem _)
  exact World.block_lt_of_cell? w ⟨b,o+0*k+0,none⟩ h2
end
structure Dact where
 kind:Int
 nm:Str
 ot:Str
 ba:Option Addr
 bc:Nat
 bs:List Int
 chg:Int
 ca:Option Addr
 cc:Nat
 cuts:List Int
 num:Int
instance:Inhabited Dact:=⟨⟨0,[],[],none,0,[],0,none,0,[],0⟩⟩
structure ActOk (w:World) (x:Dact):Prop where
 kind:0<=x.kind/\x.kind<256
 rb:RdX w (.slice x.ba x.bs.length x.bc) 1 (x.bs.map (ic .u8))
 bs:∀ y∈x.bs,0<=y/\y<256
 chg:0<=x.chg/\x.chg<256
 rc:RdX w (.slice x.ca x.cuts.length x.cc) 1 (x.cuts.map (ic .u8))
 cuts:∀ y∈x.cuts,0<=y/\y<256
 num:-9223372036854775808<=x.num/\x.num<=9223372036854775807
theorem ActOk.own' {w0 w:World} {L:List Res} {x:Dact} (h:ActOk w0 x) (hs:Own w0 no w L):ActOk w x:=⟨h.kind,h.rb.own' hs,h.bs,h.chg,h.rc.own' hs,h.cuts,h.num⟩
theorem ActOk.ownS {w0 w:World} {M:Nat->Prop} {L:List Res} {x:Dact} (h:ActOk w0 x) (hs:Own w0 M w L) (hb:x.bs≠[]->¬M (bkS (.slice x.ba x.bs.length x.bc))) (hc:x.cuts≠[]->¬M (bkS (.slice x.ca x.cuts.length x.cc))):ActOk w x :=
 ⟨h.kind,h.rb.own hs (fun q=>hb (by intro e;exact q (by rw [e];rfl))),h.bs,h.chg,h.rc.own hs (fun q=>hc (by intro e;exact q (by rw [e];rfl))),h.cuts,h.num⟩
end Go.Vx
namespace Go.Vx
open Go.RowKit
def QtS:List Value:=[.int .i64 0,.slice none 0 0,.map none,.map none,.slice none 0 0,.bool false,.int .i64 0]
def Nob (w:World) (v:Value):Prop:=v = .pointer none∨∃ b,v = .pointer (some ⟨b,0,none⟩)/\Qcf w b QtS
theorem Nob.own' {w0 w:World} {L:List Res} {v:Value} (h:Nob w0 v) (hs:Own w0 no w L):Nob w v:=by
 rcases h with h|⟨b,h,hc⟩
 ·exact .inl h
 exact .inr ⟨b,h,hc.own' hs⟩
structure Qs (N:Nat) (s:Str) (p:Nat) (bs:List Int) (sf:Nat) (room:Int) (m:Dk):Prop where
 ok:DOk N m
 get:mget s m.nm=some (pt p)
 at_:∃ i:Nat,m.ts[i]?=some ⟨p,bs,sf⟩
 room:m.room=room
structure Qt (N:Nat) (s:Str) (p:Nat) (bs:List Int) (sf:Nat) (room:Int) (m:Dk):Prop where
 q:Qs N s p bs sf room m
 safe:mget s m.sf=some (pt p)
 ch:∀ k∈m.ch,k.fr=[]/\k.to≠s
theorem Qs.i {N:Nat} {s:Str} {p:Nat} {bs:List Int} {sf:Nat} {room:Int} {m:Dk} (h:Qs N s p bs sf room m):∃ i:Nat,m.ts[i]?=some ⟨p,bs,sf⟩:=h.at_
theorem Qt.app {N:Nat} {s:Str} {p:Nat} {bs cs:List Int} {sf:Nat} {room:Int} {m:Dk} (h:Qt N s p bs sf room m) {i:Nat} (hi:m.ts[i]?=some ⟨p,bs,sf⟩) (hc:cs.length<=1000):Qt (N+1) s p (bs++cs) sf room { m with ts:=m.ts.set i ⟨p,bs++cs,sf⟩ } :=
 ⟨⟨h.q.ok.app hi hc,h.q.get,⟨i,by show (m.ts.set i _)[i]?=_;rw [List.getElem?_set_self (QaX hi)]⟩,h.q.room⟩,h.safe,h.ch⟩
theorem Qt.new {N:Nat} {s s2:Str} {p p2:Nat} {bs cs:List Int} {sf:Nat} {room:Int} {m:Dk} (h:Qt N s p bs sf room m) (hs:1<=s2.length) (hne:s2≠s) (hp:∀ t∈m.ts,t.p≠p2) (hc:cs.length<=1000):Qt (N+1) s p bs sf room (Qv3 m s2 p2 cs):=by
 obtain ⟨i,hi⟩:=h.q.at_
 refine ⟨⟨h.q.ok.newT hs hp hc,?_,⟨i,?_⟩,h.q.room⟩,h.safe,fun k hk=>?_⟩
 ·show mget s (doC m.nm ⟨s2,[],pt p2⟩)=_
  rw [QmC,QgA,if_neg (fun e=>hne e.symm)];exact h.q.get
 ·show (m.ts++[_])[i]?=_
  rw [List.getElem?_append_left (QaX hi)];exact hi
 have:k∈m.ch++[(⟨s2,[],pt p2⟩:Chg)]:=hk
 rcases List.mem_append.1 this with e|e
 ·exact h.ch k e
 rw [List.mem_singleton] at e;subst e;exact ⟨rfl,hne⟩
end Go.Vx
namespace Go.Vx
open Go.RowKit
def Kept (w:World) (S:Nat->Prop) (R:Res):Prop:=∃ T,R.holds w T/\∀ b,S b->¬T b
section
variable {w w0 w1:World} {S M:Nat->Prop} {L L1:List Res}
theorem Rd.ownE {v:Value} {k:Nat} {ls:List (List Value)} (h:Rd w0 v k ls) (hs:Own w0 M w L) (hm:ls≠[]->¬M (bkS v)):Rd w v k ls:=by
 by_cases q:ls=[]
 ·subst q;exact h.emp_own w
 exact h.own hs (hm q)
theorem Kept.cells {b T:Nat} {cs:List Value} (h:Kept w S (blk b cs T)) (hs:Own w S w1 L1):Qcf w1 b cs:=by
 obtain ⟨T',hk,hd⟩:=h
 have hb:¬S b:=fun hS=>hd b hS hk.1
 have h0:Qcf w b cs:=fun j u hj=>by
  rw [cell_of_row w b j _ T _ hk.2];simpa using hj
 exact h0.own hs hb
theorem Kept.rd {v:Value} {ls:List (List Value)} {E k:Nat} (h:Kept w S (row v ls E k)) (hs:Own w S w1 L1):Rd w1 v k ls:=by
 obtain ⟨T',hk,hd⟩:=h
 refine (Rd.of_row hk).ownE hs fun hne hS=>?_
 obtain ⟨_,hown,hT⟩:=hk
 rcases hown.2 with ⟨hv,hn⟩|⟨g,cap,cur,hv,_⟩
 ·exact hne (List.eq_nil_of_length_eq_zero (by simpa using hn))
 subst hv;exact hd g hS (hT g rfl)
end
section
variable {P:Program} {ty:TypeId} {e:Operand->Value} {w:World} {K:Value->World->Prop} {w0:World} {M:Nat->Prop} {L:List Res}
theorem Qjl {α:Type} {f:FuncId} {xs:List Operand} {vs:List Value} {ats:Array TypeId} {V:α->Value} {R:Res} {R':α->Res} {Lo:α->List Res} {F:α->World->Prop} (hf:En P f) (hef:e (.func f) = .func (.func f) #[] #[]) (hv:xs.map e=vs)
  (hs:Own w0 M w L) (i:Nat) (hi:L[i]?=some R)
  (hc:∀ S,R.holds w S->(∀ b,S b->b<w.heap.size)->(∀ j,j≠i->∀ Rj,L[j]?=some Rj->Kept w S Rj)->Calls P f vs.toArray w fun r w'=>∃ x,r = .returned (V x)/\Own w S w' (R' x :: Lo x)/\F x w') (h:∀ x w',Own w0 M w' (L.set i (R' x)++Lo x)->F x w'->K (V x) w') :
  opW P (.call { callee:=.value (.func f),args:=xs.toArray,argTypes:=ats }) ty e w K:=by
 obtain ⟨S,hR,hlt,_,hd,hback⟩:=hs.lend3 i hi
 exact Qf1 hf hef (by rw [List.map_toArray,hv]) ((hc S hR hlt hd).mono fun r w' ⟨x,hr,ho,hF⟩=>⟨V x,hr,h x w' (hback w' _ _ ho) hF⟩)
end
theorem QrL {α:Type} {p:α->Bool} {l:List α}:decide (0<=QeC p l)=l.any p:=by
 unfold QeC
 cases l.any p with
 | true=>rw [if_pos rfl];exact QQ3 (by omega)
 | false=>rw [if_neg (by decide)];rfl
end Go.Vx
namespace Go.Proofs
open Go Go.Vx Go.RowKit
namespace Tt
theorem Quc:T1 Tryz.prog 100:=⟨Tryz.sizeOf100,Tryz.isAgg100⟩
theorem Qsl:Bt Tryz.prog 119 [(0,1),(1,1),(2,1),(3,1),(4,2),(6,1)] (cec (⟨0,0,0,0,(⟨0,0⟩:Dot),0⟩:Cen)):=QbL Tryz.type119 rfl rfl Tryz.underlying119 (by kernel_rfl)
theorem Qtj:En Tryz.prog 148:=Tryz.call148
theorem QsT:En Tryz.prog 17:=Tryz.call17
theorem Qvn:En Tryz.prog 18:=Tryz.call18
theorem Qvi:En Tryz.prog 35:=Tryz.call35
theorem Qvw:En Tryz.prog 43:=Tryz.call43
theorem QuL:En Tryz.prog 45:=Tryz.call45
theorem Qvj:En Tryz.prog 47:=Tryz.call47
theorem Quz:En Tryz.prog 48:=Tryz.call48
theorem Qut:En Tryz.prog 50:=Tryz.call50
theorem QsQ:En Tryz.prog 52:=Tryz.call52
theorem QuJ:En Tryz.prog 53:=Tryz.call53
theorem Qvt:En Tryz.prog 54:=Tryz.call54
theorem Qu6:En Tryz.prog 56:=Tryz.call56
theorem Qum:En Tryz.prog 57:=Tryz.call57
theorem Qvd:En Tryz.prog 96:=Tryz.call96
theorem Qiy:Ud Tryz.prog 100 (.map 32 22):=Tryz.runUnderlying100
theorem QsN:Zv Tryz.prog 22 (.int .u32 0):=Tryz.zeroValue22
theorem Qvr:Zv Tryz.prog 29 (.slice none 0 0):=Tryz.zeroValue29
end Tt
end Go.Proofs
namespace Go.Vx
theorem Ql2 {a b:Vec} {d:Dot} (h:vle a b=true) (ha:Qby a d=true):Qby b d=true:=by
 unfold Qby at *
 simp only [Bool.and_eq_true,decide_eq_true_eq] at *
 exact ⟨ha.1,by have:=Qlv h d.rep.toNat;omega⟩
theorem Ql5 {s:List Lst} (hs:∀ x∈s,Qgd x):∀ u:List Opn,(∀ o∈u,Qdg o)->∀ x∈QbN s u,Qgd x:=by
 refine Qbv (motive:=fun u=>(∀ o∈u,Qdg o)->∀ x∈QbN s u,Qgd x) (fun _=>hs) fun u o ih ho=>?_
 rw [Qb7]
 have:=ho o (by simp)
 exact Qja ⟨this.2.2.1,this.2.2.2.2.2.1⟩ (ih fun x hx=>ho x (List.mem_append_left _ hx))
theorem Qlt {s:List Lst} {B:Int} (hr:Qdy s) (hs:∀ x∈s,x.tick<=B):∀ u:List Opn,(∀ o∈u,o.tick<=B)->∀ c t,QaB (QbN s u) c=some t->t<=B:=by
 refine Qbv (motive:=fun u=>(∀ o∈u,o.tick<=B)->∀ c t,QaB (QbN s u) c=some t->t<=B) (fun _ c t h=>hs ⟨c,t⟩ ((Qea hr ⟨c,t⟩).2 h)) fun u o ih ho c t h=>?_
 rw [Qb7,Qdq (Qcw hr u)] at h
 have ih2:=ih fun x hx=>ho x (List.mem_append_left _ hx)
 have h0:=ho o (by simp)
 split at h
 ·cases h2:QaB (QbN s u) o.cart with
  | none=>rw [h2] at h;cases h;exact h0
  | some v =>
   rw [h2] at h
   have h3:max v o.tick=t:=Option.some.inj h
   have:=ih2 _ _ h2;omega
 exact ih2 c t h
theorem QkT {s:List Lst} (hr:Qdy s) {c:Int} (h0:(QaB s c).isSome=true):∀ u:List Opn,(QaB (QbN s u) c).isSome=true:=by
 refine Qbv (motive:=fun u=>(QaB (QbN s u) c).isSome=true) h0 fun u o ih=>?_
 rw [Qb7,Qdq (Qcw hr u)]
 split
 ·rfl
 exact ih
theorem QlC {s:List Lst} (hr:Qdy s):∀ u:List Opn,∀ o∈u,(QaB (QbN s u) o.cart).isSome=true:=by
 refine Qbv (motive:=fun u=>∀ o∈u,(QaB (QbN s u) o.cart).isSome=true) (fun o h=>by cases h) fun u x ih o ho=>?_
 rw [Qb7,Qdq (Qcw hr u)]
 split
 ·rfl
 rename_i hne
 rcases List.mem_append.1 ho with h|h
 ·exact ih o h
 simp at h;subst h;exact absurd rfl hne
theorem QlN {p:Pst} {cut:Vec} (hr:Qb2 p=true) (hok:QcW p) (hc:QbW cut):QdG (QhV p cut):=by
 refine ⟨hc,fun e he=>?_,fun x hx=>?_⟩
 ·rcases Qfj ((QhW hr cut e).1 he).1 with h|⟨o,ho,_,rfl⟩
  ·exact hok.1.2.1 e h
  exact Qnk (hok.2.1 o (Qdv ho))
 exact Ql5 hok.1.2.2 _ (fun o ho=>hok.2.1 o (Qdv ho)) x hx
theorem QdR {p:Pst} {cut:Vec} (hok:QcW p) (hc:QbW cut):QdG (Qag p cut):=by
 unfold Qag;split
 ·rename_i h;exact QlN (QdW h).1 hok hc
 exact Qhy
theorem Qc1 (p:Pst) (cut:Vec):(Qag p cut).ents.length<=p.base.ents.length+p.ops.length/\(Qag p cut).ticks.length<=p.base.ticks.length+p.ops.length:=by
 have h1:=QiQ p.ops cut
 unfold Qag;split
 ·refine ⟨?_,?_⟩
  ·show (Qk6 _ _).length<=_
   unfold Qk6
   rw [QkG]
   have h2:=List.length_filter_le (QcM (Qal p.ops cut)) (Qbz p.base.ents (Qal p.ops cut))
   have h3:=QkY p.base.ents (Qal p.ops cut)
   omega
  show (QbN _ _).length<=_
  have:=Qhf (s:=p.base.ticks) (Qal p.ops cut)
  omega
 exact ⟨Nat.zero_le _,Nat.zero_le _⟩
theorem QkA {o:Opn} (h:Qcm o=true) (hl:Qa0 o=true):QaT (QhN o)=true:=by
 unfold Qcm at h
 simp only [Bool.and_eq_true] at h
 have hkk:=h.2
 unfold Qb6 at hkk
 unfold QaT QhN
 rcases Qis.1 hl with g|g|g
 ·simp [g] at hkk ⊢;exact hkk
 ·simp [g]
 simp [g] at hkk ⊢;exact hkk
theorem QmB {α β:Type} {f:α->β} {l:List α} (h:(l.map f).Nodup):l.Nodup:=by
 unfold List.Nodup at h ⊢
 rw [List.pairwise_map] at h
 exact h.imp fun {a b} hab e=>hab (by rw [e])
theorem Qjs {p:Pst} {cut:Vec} (hok:QcW p) (hI:Qbc p cut=0):RightC (QhV p cut):=by
 obtain ⟨hr,hcut,_,hle⟩:=QdW hI
 obtain ⟨hc,hb⟩:=Qcx hr
 have hu:∀ o∈Qal p.ops cut,o∈p.ops/\Qby cut o.dot=true:=fun o h=>List.mem_filter.1 h
 have hT:=Qcw hb.rt (Qal p.ops cut)
 refine ⟨hcut,hT,fun x hx=>?_,?_,fun e he=>?_,?_⟩
 ·refine Qlt hb.rt hb.tick (Qal p.ops cut) (fun o ho=>?_) x.cart x.tick ((Qea hT x).1 hx)
  have:=hc.ok o (hu o ho).1
  unfold Qcm at this
  simp only [Bool.and_eq_true,decide_eq_true_eq] at this
  exact this.1.2
 ·exact (Qdn _ (Qdo hr cut)).1
 ·rcases Qfj ((QhW hr cut e).1 he).1 with h|⟨o,ho,hl,rfl⟩
  ·have h2:=hb.ent e h
   unfold Qdl at h2 ⊢
   simp only [Bool.and_eq_true,decide_eq_true_eq] at h2 ⊢
   exact ⟨⟨⟨⟨QkT hb.rt h2.1.1.1.1 _,h2.1.1.1.2⟩,Ql2 hle h2.1.1.2⟩,h2.1.2⟩,h2.2⟩
  have hoo:=hu o ho
  have hrt:=hc.ok o hoo.1
  have hcn:=QpV (hok.2.1 o hoo.1) hrt
  unfold Qdl
  simp only [Bool.and_eq_true,decide_eq_true_eq]
  exact ⟨⟨⟨⟨QlC hb.rt _ o ho,QkA hrt hl⟩,hoo.2⟩,hcn.1⟩,hcn.2⟩
 have hp:=Qdn _ (Qdo hr cut)
 have hn:=Qdo hr cut
 have hnl:((Qbz p.base.ents (Qal p.ops cut)).filter (QcM (Qal p.ops cut))).Nodup:=QmB hn
 have hperm:(QhV p cut).ents.Perm ((Qbz p.base.ents (Qal p.ops cut)).filter (QcM (Qal p.ops cut))):=by
  refine (List.perm_ext_iff_of_nodup ?_ hnl).2 hp.2
  exact hp.1.imp fun {a b} hab e=>by subst e;rw [Qcn] at hab;cases hab
 exact (hperm.map _).nodup_iff.2 hn
theorem Qin {p:Pst} {cut:Vec} (hok:QcW p) (hI:Qbc p cut=0):Qam (Qag p cut)=true:=by
 unfold Qag;rw [if_pos hI];exact Qeh.2 (Qjs hok hI)
def Qqe:Vw:=⟨0,[],false,0⟩
def QaZ (p:Pst) (cut:Vec) (n:Int):Vw:=Qau (Qag p cut) n (Qam (Qag p cut))
def Qa1 (p:Pst) (cut:Vec) (n:Int):Vw:=if Qbc p cut=0 then QaZ p cut n else Qqe
theorem QnH {p:Pst} {cut:Vec} {n:Int} (h:¬Qbc p cut=0):Qa1 p cut n=Qqe:=if_neg h
theorem QiP {p:Pst} {cut:Vec} {n:Int} (h:Qbc p cut=0):Qa1 p cut n=QaZ p cut n:=if_pos h
end Go.Vx
namespace Go.Proofs
open Go Go.Vx Go.RowKit
namespace Tt
theorem QtJ:Bt Tryz.prog 43 [(0,18),(18,1),(19,16)] (((vc vzero)++[(.slice none 0 0:Value),(.slice none 0 0:Value) ])++[(.slice none 0 0:Value) ]++(vc vzero)):=QbL Tryz.type43 rfl rfl Tryz.underlying43 (by kernel_rfl)
theorem Qmp:En Tryz.prog 12:=Tryz.call12
theorem Quw:En Tryz.prog 14:=Tryz.call14
theorem QvM:En Tryz.prog 38:=Tryz.call38
theorem QuV:En Tryz.prog 51:=Tryz.call51
theorem Quv:En Tryz.prog 58:=Tryz.call58
theorem Qtq:Zv Tryz.prog 43 (.agg (((vc vzero)++[(.slice none 0 0:Value),(.slice none 0 0:Value) ])++[(.slice none 0 0:Value) ]++(vc vzero)).toArray):=Tryz.zeroValue43
end Tt
end Go.Proofs
namespace Go.Vx
open Go.RowKit
structure Dif where
 cart:Int
 item:Int
 mark:Bool
 was:Int
 nw:Int
deriving DecidableEq
instance:Inhabited Dif:=⟨⟨0,0,false,0,0⟩⟩
def dfc (x:Dif):List Value:=[.int .u16 x.cart,.int .u16 x.item,.bool x.mark,.int .u32 x.was,.int .u32 x.nw]
theorem Qjk (x:Dif):∀ y∈dfc x,y.oneCell'=true:=by
 intro y hy;simp only [dfc,List.mem_cons,List.not_mem_nil,or_false] at hy;rcases hy with h|h|h|h|h<;>subst h<;>rfl
theorem QrS (a b:Dif):(decide (a.cart=b.cart)&&(decide (a.item=b.item)&&((a.mark == b.mark)&&(decide (a.was=b.was)&&(decide (a.nw=b.nw)&&true)))))=decide (a=b):=by
 cases a;cases b;simp
 rw [Bool.eq_iff_iff];simp
def QfG (l:List Line):Prop:=l.Pairwise fun a b=>a.item<b.item
def qL (l:List Line) (n:Int):Int:=((l.find? fun x=>decide (x.item=n)).map (·.qty)).getD 0
def Qjp (c:Int) (a b:List Line) (n:Int):List Dif:=if qL a n=qL b n then [] else [⟨c,n,false,qL a n,qL b n⟩]
def Qlq (a b:Vw):List Dif:=if a.out=b.out then [] else [⟨b.cart,0,true,QeN a.out,QeN b.out⟩]
def unI (a b:List Line):List Int:=QeO ((a++b).map (·.item))
def QeA (a b:Vw):List Dif:=(unI a.lines b.lines).flatMap (Qjp b.cart a.lines b.lines)++Qlq a b
theorem Qrk {l:List Line} (h:QfG l) {x:Line} (hx:x∈l):qL l x.item=x.qty:=by
 unfold qL
 induction l with
 | nil=>cases hx
 | cons y l ih =>
  rw [List.find?_cons]
  rcases List.mem_cons.1 hx with e|e
  ·subst e;simp
  have h1:=List.pairwise_cons.1 h
  have h2:=h1.1 x e
  rw [QQ4 (by omega)]
  exact ih h1.2 e
theorem Qr1 {l:List Line} {n:Int} (h:∀ x∈l,x.item≠n):qL l n=0:=by
 unfold qL
 rw [List.find?_eq_none.2 fun x hx=>by simpa using h x hx];rfl
structure DifI (a b R1 R2:List Line) (I:List Int):Prop where
 ex:∃ D1 D2,a=D1++R1/\b=D2++R2/\(∀ i,i∈I↔i∈(D1++D2).map (·.item))
 lt:∀ i∈I,∀ x,x∈R1∨x∈R2->i<x.item
 asc:I.Pairwise (· < ·)
theorem QkW (a b:List Line):DifI a b a b []:=⟨⟨[],[],rfl,rfl,by simp⟩,by simp,List.Pairwise.nil⟩
theorem Qpu {a b:List Line} {I:List Int} (h:DifI a b [] [] I):I=unI a b:=by
 obtain ⟨D1,D2,h1,h2,h3⟩:=h.ex
 rw [List.append_nil] at h1 h2
 subst h1 h2
 exact QfR h.asc (Qfu _).1 fun x=>by unfold unI;rw [h3,(Qfu _).2]
theorem QfG.app {l m:List Line} (h:QfG (l++m)):QfG l/\QfG m/\∀ x∈l,∀ y∈m,x.item<y.item:=List.pairwise_append.1 h
theorem Qe4 {R:List Line} (h:QfG R) (hn:0<R.length):∀ x∈R.drop 1,(gd R 0).item<x.item:=by
 cases R with
 | nil=>simp at hn
 | cons y R=>exact (List.pairwise_cons.1 h).1
theorem Qhp {R:List Line} (hn:0<R.length):R=gd R 0 :: R.drop 1:=by cases R with|nil=>simp at hn|cons y R=>rfl
theorem Qv0 {I:List Int} {n:Int} (h:I.Pairwise (· < ·)) (hn:∀ i∈I,i<n):(I++[n]).Pairwise (· < ·):=by
 rw [List.pairwise_append];exact ⟨h,by simp,fun a ha b hb=>by simp at hb;subst hb;exact hn a ha⟩
theorem Qmh {a b R1 R2:List Line} {I:List Int} (ha:QfG a) (hb:QfG b) (h:DifI a b R1 R2 I) (hn:0<R1.length) (hlt:∀ x∈R2,(gd R1 0).item<x.item):DifI a b (R1.drop 1) R2 (I++[(gd R1 0).item])/\qL a (gd R1 0).item=(gd R1 0).qty/\qL b (gd R1 0).item=0:=by
 obtain ⟨D1,D2,h1,h2,h3⟩:=h.ex
 have hm:gd R1 0∈R1:=QbK hn
 have hr1:=(QfG.app (h1 ▸ ha)).2.1
 refine ⟨⟨⟨D1++[gd R1 0],D2,?_,h2,fun i=>?_⟩,fun i hi x hx=>?_,Qv0 h.asc fun i hi=>h.lt i hi _ (.inl hm)⟩,Qrk ha (by rw [h1];exact List.mem_append_right _ hm),Qr1 fun x hx=>?_⟩
 ·rw [List.append_assoc,h1];congr 1;exact Qhp hn
 ·rw [List.mem_append,h3,List.mem_singleton];simp only [List.map_append,List.mem_append,List.map_cons,List.map_nil,List.mem_singleton]
  constructor
  ·rintro ((h|h)|h)
   ·exact .inl (.inl h)
   ·exact .inr h
   exact .inl (.inr h)
  rintro ((h|h)|h)
  ·exact .inl (.inl h)
  ·exact .inr h
  exact .inl (.inr h)
 ·rcases List.mem_append.1 hi with hi|hi
  ·refine h.lt i hi x ?_
   rcases hx with hx|hx
   ·exact .inl (List.mem_of_mem_drop hx)
   exact .inr hx
  simp at hi;subst hi
  rcases hx with hx|hx
  ·exact Qe4 hr1 hn x hx
  exact hlt x hx
 rw [h2] at hx
 rcases List.mem_append.1 hx with hx|hx
 ·have h4:=h.lt x.item ((h3 _).2 (List.mem_map.2 ⟨x,List.mem_append_right _ hx,rfl⟩)) _ (.inl hm)
  omega
 have:=hlt x hx;omega
theorem QpF {a b R1 R2:List Line} {I:List Int} (ha:QfG a) (hb:QfG b) (h:DifI a b R1 R2 I) (hn:0<R2.length) (hlt:∀ x∈R1,(gd R2 0).item<x.item):DifI a b R1 (R2.drop 1) (I++[(gd R2 0).item])/\qL a (gd R2 0).item=0/\qL b (gd R2 0).item=(gd R2 0).qty:=by
 have hs:DifI b a R2 R1 I:=by
  obtain ⟨D1,D2,h1,h2,h3⟩:=h.ex
  exact ⟨⟨D2,D1,h2,h1,fun i=>by rw [h3];simp only [List.map_append,List.mem_append];exact Or.comm⟩,fun i hi x hx=>h.lt i hi x hx.symm,h.asc⟩
 obtain ⟨h1,h2,h3⟩:=Qmh hb ha hs hn hlt
 refine ⟨?_,h3,h2⟩
 obtain ⟨D1,D2,e1,e2,e3⟩:=h1.ex
 exact ⟨⟨D2,D1,e2,e1,fun i=>by rw [e3];simp only [List.map_append,List.mem_append];exact Or.comm⟩,fun i hi x hx=>h1.lt i hi x hx.symm,h1.asc⟩
theorem Qp8 {a b R1 R2:List Line} {I:List Int} (ha:QfG a) (hb:QfG b) (h:DifI a b R1 R2 I) (hn1:0<R1.length) (hn2:0<R2.length) (he:(gd R1 0).item=(gd R2 0).item):DifI a b (R1.drop 1) (R2.drop 1) (I++[(gd R1 0).item])/\qL a (gd R1 0).item=(gd R1 0).qty/\qL b (gd R1 0).item=(gd R2 0).qty:=by
 obtain ⟨D1,D2,h1,h2,h3⟩:=h.ex
 have hm:gd R1 0∈R1:=QbK hn1
 have hm2:gd R2 0∈R2:=QbK hn2
 have hr1:=(QfG.app (h1 ▸ ha)).2.1
 have hr2:=(QfG.app (h2 ▸ hb)).2.1
 refine ⟨⟨⟨D1++[gd R1 0],D2++[gd R2 0],?_,?_,fun i=>?_⟩,fun i hi x hx=>?_,Qv0 h.asc fun i hi=>h.lt i hi _ (.inl hm)⟩,Qrk ha (by rw [h1];exact List.mem_append_right _ hm),by rw [he];exact Qrk hb (by rw [h2];exact List.mem_append_right _ hm2)⟩
 ·rw [List.append_assoc,h1];congr 1;exact Qhp hn1
 ·rw [List.append_assoc,h2];congr 1;exact Qhp hn2
 ·rw [List.mem_append,h3,List.mem_singleton];simp only [List.map_append,List.mem_append,List.map_cons,List.map_nil,List.mem_singleton]
  constructor
  ·rintro ((h|h)|h)
   ·exact .inl (.inl h)
   ·exact .inr (.inl h)
   exact .inl (.inr h)
  rintro ((h|h)|(h|h))
  ·exact .inl (.inl h)
  ·exact .inr h
  ·exact .inl (.inr h)
  exact .inr (h.trans he.symm)
 rcases List.mem_append.1 hi with hi|hi
 ·refine h.lt i hi x ?_
  rcases hx with hx|hx
  ·exact .inl (List.mem_of_mem_drop hx)
  exact .inr (List.mem_of_mem_drop hx)
 simp at hi;subst hi
 rcases hx with hx|hx
 ·exact Qe4 hr1 hn1 x hx
 rw [he];exact Qe4 hr2 hn2 x hx
theorem Qhz {c n was nw:Int} {a b:List Line} {I:List Int} {L out:List Dif} (h:out=L++I.flatMap (Qjp c a b)) (h1:qL a n=was) (h2:qL b n=nw) (hne:¬was=nw):out++[⟨c,n,false,was,nw⟩]=L++(I++[n]).flatMap (Qjp c a b):=by
 rw [List.flatMap_append,← List.append_assoc,← h]
 congr 1
 simp only [List.flatMap_cons,List.flatMap_nil,List.append_nil]
 unfold Qjp;rw [h1,h2,if_neg hne]
theorem QmG {c n was nw:Int} {a b:List Line} {I:List Int} {L out:List Dif} (h:out=L++I.flatMap (Qjp c a b)) (h1:qL a n=was) (h2:qL b n=nw) (hne:was=nw):out=L++(I++[n]).flatMap (Qjp c a b):=by
 rw [List.flatMap_append,← List.append_assoc,← h]
 simp only [List.flatMap_cons,List.flatMap_nil,List.append_nil]
 unfold Qjp;rw [h1,h2,if_pos hne,List.append_nil]
theorem QfI {R1 R2:List Line} (hr:QfG R2) (h:R2.length=0∨(0<R1.length/\(gd R1 0).item<(gd R2 0).item)):∀ x∈R2,(gd R1 0).item<x.item:=by
 intro x hx
 rcases h with h|h
 ·rw [List.eq_nil_of_length_eq_zero h] at hx;cases hx
 have hn:0<R2.length:=List.length_pos_of_mem hx
 rw [Qhp hn] at hx
 rcases List.mem_cons.1 hx with e|e
 ·rw [e];exact h.2
 have:=Qe4 hr hn x e;omega
theorem QnK {a b R1 R2:List Line} {I:List Int} (ha:QfG a) (hb:QfG b) (h:DifI a b R1 R2 I):QfG R1/\QfG R2:=by
 obtain ⟨D1,D2,h1,h2,_⟩:=h.ex
 exact ⟨(QfG.app (h1 ▸ ha)).2.1,(QfG.app (h2 ▸ hb)).2.1⟩
theorem Qpj {a b R1 R2:List Line} {I:List Int} (h:DifI a b R1 R2 I):(∀ x∈R1,x∈a)/\∀ x∈R2,x∈b:=by
 obtain ⟨D1,D2,h1,h2,_⟩:=h.ex
 subst h1 h2
 exact ⟨fun x hx=>List.mem_append_right _ hx,fun x hx=>List.mem_append_right _ hx⟩
def Qer (TC T b:Nat) (L:List Dif):Res:=exR fun x:Option Addr × Nat=>star [blk b [(.slice x.1 L.length x.2:Value)] TC,row (.slice x.1 L.length x.2) (L.map dfc) T 5]
theorem QoR {TC T b:Nat} {L:List Dif} {w:World} {S:Nat->Prop} (h:(Qer TC T b L).holds w S) (hlt:∀ x,S x->x<w.heap.size):∃ a c,Own w S w [blk b [(.slice a L.length c:Value)] TC,row (.slice a L.length c) (L.map dfc) T 5]:=by
 obtain ⟨⟨a,c⟩,h⟩:=h
 exact ⟨a,c,Own.open h hlt⟩
theorem QoS {TC T b:Nat} {L:List Dif} {w w0:World} {M:Nat->Prop} {a:Option Addr} {c:Nat} (h:Own w0 M w [blk b [(.slice a L.length c:Value)] TC,row (.slice a L.length c) (L.map dfc) T 5]):Own w0 M w [Qer TC T b L]:=(Own.shut h).conv 0 rfl fun _ h=>⟨(a,c),h⟩
section
variable {P:Program} {ty:TypeId} {e:Operand->Value} {w:World} {K:Value->World->Prop} {w0:World} {M:Nat->Prop} {L:List Res}
theorem QnD {α:Type} {f:FuncId} {x:Operand} {xs:List Operand} {vs cs:List Value} {ats:Array TypeId} {V:α->Value} {R:Res} {R':α->Res} {Lo:α->List Res} {F:α->World->Prop} (hf:En P f) (hx:e x = .func (.func f) #[] cs.toArray) (hv:xs.map e=vs)
  (hs:Own w0 M w L) (i:Nat) (hi:L[i]?=some R)
  (hc:∀ S,R.holds w S->(∀ b,S b->b<w.heap.size)->Calls P f (vs++cs).toArray w fun r w'=>∃ x,r = .returned (V x)/\Own w S w' (R' x :: Lo x)/\F x w') (h:∀ x w',Own w0 M w' (L.set i (R' x)++Lo x)->F x w'->K (V x) w') :
  opW P (.call { callee:=.value x,args:=xs.toArray,argTypes:=ats }) ty e w K:=by
 obtain ⟨S,hR,hlt,hback⟩:=hs.lend i hi
 exact Qv2 hf hx hv ((hc S hR hlt).mono fun r w' ⟨x,hr,ho,hF⟩=>⟨V x,hr,h x w' (hback w' _ _ ho) hF⟩)
end
end Go.Vx
namespace Go.Vx
theorem QuU {n1 n2:Nat} {x y:Int} (h0:(decide (0<(n1:Int))||decide (0<(n2:Int)))=true) (h:(decide ((n2:Int)=0)||(decide (0<(n1:Int))&&decide (x<y)))=true):0<n1/\(n2=0∨(0<n1/\x<y)):=by
 simp only [Bool.or_eq_true,Bool.and_eq_true,decide_eq_true_eq] at h0 h
 rcases h with h|h
 ·exact ⟨by omega,.inl (by omega)⟩
 exact ⟨by omega,.inr ⟨by omega,h.2⟩⟩
theorem QuI {n1 n2:Nat} {x y:Int} (hn:0<n2) (h:(decide ((n1:Int)=0)||decide (y<x))=true):n1=0∨(0<n2/\y<x):=by
 simp only [Bool.or_eq_true,decide_eq_true_eq] at h
 rcases h with h|h
 ·exact .inl (by omega)
 exact .inr ⟨hn,h⟩
theorem Qvb {n1:Nat} {x y:Int} (h:(decide (0<(n1:Int))&&decide (x<y))=false) (hn:0<n1) (hy:¬y<x):x=y:=by
 rw [QQ3 (by omega:0<(n1:Int)),Bool.true_and,decide_eq_false_iff_not] at h
 omega
end Go.Vx
namespace Go.Vx
theorem QjE {la lb R1 R2:List Line} {I:List Int} {c:Int} {L out:List Dif} (h:DifI la lb R1 R2 I) (h1:¬0<R1.length) (h2:¬0<R2.length) (ho:out=L++I.flatMap (Qjp c la lb)):out=L++(unI la lb).flatMap (Qjp c la lb):=by
 have hR1:R1=[]:=List.eq_nil_of_length_eq_zero (by omega)
 have hR2:R2=[]:=List.eq_nil_of_length_eq_zero (by omega)
 subst hR1 hR2
 rw [ho,Qpu h]
theorem Qmb {va vb at_ bt:Int} {ao bo:Bool} {la lb:List Line} {L out:List Dif} (ho:out=L++(unI la lb).flatMap (Qjp vb la lb)) (h:ao=bo):out=L++QeA ⟨va,la,ao,at_⟩ ⟨vb,lb,bo,bt⟩:=by
 unfold QeA Qlq;rw [ho,if_pos h,List.append_nil]
theorem Qls {va vb at_ bt:Int} {ao bo:Bool} {la lb:List Line} {L out:List Dif} (ho:out=L++(unI la lb).flatMap (Qjp vb la lb)) (h:¬ao=bo):out++[⟨vb,0,true,QeN ao,QeN bo⟩]=L++QeA ⟨va,la,ao,at_⟩ ⟨vb,lb,bo,bt⟩:=by
 unfold QeA Qlq;rw [ho,if_neg h,List.append_assoc]
end Go.Vx
namespace Go.Proofs
open Go Go.Vx Go.RowKit
namespace Tt
theorem QrX:T1 Tryz.prog 60:=⟨Tryz.sizeOf60,Tryz.isAgg60⟩
theorem QiU:TA Tryz.prog 83 5:=⟨Tryz.sizeOf83,Tryz.isAgg83⟩
theorem Qrc:Bt Tryz.prog 83 [(0,1),(1,1),(2,1),(3,1),(4,1)] (dfc (⟨0,0,false,0,0⟩:Dif)):=QbL Tryz.type83 rfl rfl Tryz.underlying83 (by kernel_rfl)
theorem QtV:El Tryz.prog 60 83 5 16:=⟨Tryz.underlying60,_,_,Tryz.type83,rfl,rfl,rfl,rfl,by decide⟩
theorem QpY:En Tryz.prog 106:=Tryz.call106
theorem QnJ:En Tryz.prog 65:=Tryz.call65
theorem QdM:FA Tryz.prog 127 0 0:=fun b o w=>by simp [Instr.fieldAt,Instr.sureAddr,fieldPlace,QaV]
theorem QfO:FA Tryz.prog 127 1 1:=fun b o w=>by simp [Instr.fieldAt,Instr.sureAddr,fieldPlace,QaV]
theorem Qi9:FA Tryz.prog 83 1 1:=fun b o w=>by simp [Instr.fieldAt,Instr.sureAddr,fieldPlace,QaV]
theorem QfV:FA Tryz.prog 83 3 3:=fun b o w=>by simp [Instr.fieldAt,Instr.sureAddr,fieldPlace,QaV]
theorem Qgr:FA Tryz.prog 83 4 4:=fun b o w=>by simp [Instr.fieldAt,Instr.sureAddr,fieldPlace,QaV]
theorem QjP:Tryz.prog.underlying 47=some (.slice 127):=Tryz.underlying47
theorem QvP:Zv Tryz.prog 83 (.agg (dfc (⟨0,0,false,0,0⟩:Dif)).toArray):=Tryz.zeroValue83
end Tt
end Go.Proofs
namespace Go.Vx
theorem Qkx (s:Sta) (c:Int) (r:Bool):QfG (Qau s c r).lines:=by
 unfold Qau;split
 ·exact List.pairwise_map.2 (Qfu _).1
 exact List.Pairwise.nil
theorem QiI (l:List Int):(QeO l).length<=l.length:=by
 have h:∀ l:List Int,(l.foldl (fun m x=>if x∈m then m else m++[x]) []).length<=l.length:=by
  refine Qbv (Nat.le_refl _) fun l a ih=>?_
  rw [List.foldl_append,QQ7]
  show (if a∈_ then _ else _:List Int).length<=_
  split
  ·omega
  rw [QQ7];simp;omega
 unfold QeO;rw [QeR];exact h l
theorem Qe3 (s:Sta) (c:Int) (r:Bool):(Qau s c r).lines.length<=s.ents.length:=by
 unfold Qau;split
 ·show ((QeO (Qc9 s c)).map _).length<=_
  rw [QQ6]
  refine Nat.le_trans (QiI _) ?_
  unfold Qc9;rw [QQ6];exact List.length_filter_le _ _
 exact Nat.zero_le _
theorem Qog (a b:Vw):(QeA a b).length<=a.lines.length+b.lines.length+1:=by
 unfold QeA
 rw [QQ7]
 have h1:∀ l:List Int,(l.flatMap (Qjp b.cart a.lines b.lines)).length<=l.length:=by
  intro l
  induction l with
  | nil=>exact Nat.le_refl _
  | cons x l ih =>
   rw [List.flatMap_cons,QQ7,List.length_cons]
   have:(Qjp b.cart a.lines b.lines x).length<=1:=by unfold Qjp;split<;>simp
   omega
 have h2:=h1 (unI a.lines b.lines)
 have h3:=QiI ((a.lines++b.lines).map (·.item))
 have h4:(Qlq a b).length<=1:=by unfold Qlq;split<;>simp
 rw [QQ6,QQ7] at h3
 unfold unI at h2 ⊢
 omega
def Qc7 (p:Pst) (a b:Vec):Int:=if Qbc p a=0 then (if Qbc p b=0 then (if vle a b=true then 0 else 14) else Qbc p b) else Qbc p a
def Qi5 (p:Pst) (a b:Vec) (n:Int):List Dif:=QeA (QaZ p a n) (QaZ p b n)
def QcP (p:Pst) (a b:Vec):List Dif:=if Qc7 p a b=0 then (Qaz (Qag p b)).flatMap (Qi5 p a b) else []
theorem Qjq {p:Pst} {a b:Vec} (h:¬Qc7 p a b=0):QcP p a b=[]:=if_neg h
theorem QqX {p:Pst} {a b:Vec} (h:¬Qbc p a=0):Qc7 p a b=Qbc p a:=if_neg h
theorem Qri {p:Pst} {a b:Vec} (h1:Qbc p a=0) (h:¬Qbc p b=0):Qc7 p a b=Qbc p b:=by unfold Qc7;rw [if_pos h1,if_neg h]
theorem QqF {p:Pst} {a b:Vec} (h1:Qbc p a=0) (h2:Qbc p b=0) (h:vle a b=false):Qc7 p a b=14:=by unfold Qc7;rw [if_pos h1,if_pos h2,if_neg (by rw [h];decide)]
theorem Qly {p:Pst} {a b:Vec} (h1:Qbc p a=0) (h2:Qbc p b=0) (h:vle a b=true):Qc7 p a b=0:=by unfold Qc7;rw [if_pos h1,if_pos h2,if_pos h]
theorem QmF {p:Pst} {a b:Vec} {l:List Int} {k:Nat} {out:List Dif} (h:out=(l.take k).flatMap (Qi5 p a b)) (hk:k<l.length):out++Qi5 p a b (gd l k)=(l.take (k+1)).flatMap (Qi5 p a b):=by
 rw [Qbb hk,List.flatMap_append,← h];simp
theorem Qpc {p:Pst} {a b:Vec} {k:Nat} {out:List Dif} (hI:Qc7 p a b=0) (h:out=((Qaz (Qag p b)).take k).flatMap (Qi5 p a b)) (hk:¬k<(Qaz (Qag p b)).length):QcP p a b=out:=by
 unfold QcP;rw [if_pos hI,h,Qcc hk]
theorem Qjc {p:Pst} {b:Vec} (hok:QcW p) (h:Qbc p b=0):Qaz (Qag p b)=(Qag p b).ticks.map (·.cart):=by
 unfold Qaz;rw [if_pos (Qin hok h)]
theorem QiR (s:Sta):(Qaz s).length<=s.ticks.length:=by
 unfold Qaz;split
 ·rw [QQ6];exact Nat.le_refl _
 exact Nat.zero_le _
def Qc5 (v:Vw) (now idle:Int):Bool:=decide (((v.lines.length:Nat):Int)=0)||v.out||decide (now-idle<v.tick)
def abI (p:Pst) (cut:Vec) (now idle:Int):Int:=if Qbc p cut=0 then (if now<idle then 2 else 0) else Qbc p cut
def abR (p:Pst) (cut:Vec) (now idle:Int):List Int:=if abI p cut now idle=0 then (Qaz (Qag p cut)).filter (fun n=>!Qc5 (QaZ p cut n) now idle) else []
theorem Qs4 {p:Pst} {c:Vec} {n i:Int} (h:¬Qbc p c=0):abI p c n i=Qbc p c:=if_neg h
theorem QsK {p:Pst} {c:Vec} {n i:Int} (h:Qbc p c=0) (h2:n<i):abI p c n i=2:=by unfold abI;rw [if_pos h,if_pos h2]
theorem Qqi {p:Pst} {c:Vec} {n i:Int} (h:Qbc p c=0) (h2:¬n<i):abI p c n i=0:=by unfold abI;rw [if_pos h,if_neg h2]
theorem Qo2 {p:Pst} {c:Vec} {n i:Int} (h:¬abI p c n i=0):abR p c n i=[]:=if_neg h
theorem Qnt {p:Pst} {c:Vec} {n i:Int} (h:abI p c n i=0):abR p c n i=(Qaz (Qag p c)).filter (fun m=>!Qc5 (QaZ p c m) n i):=if_pos h
end Go.Vx
namespace Go.Vx
theorem QqB {v:Vw} {now idle:Int} (h1:0<((v.lines.length:Nat):Int)) (h2:v.out=false) (h3:v.tick<=now-idle):Qc5 v now idle=false:=by
 unfold Qc5;rw [h2,QQ4 (by omega),QQ4 (by omega)];rfl
theorem Qoe {v:Vw} {now idle:Int} (h:(decide (0<((v.lines.length:Nat):Int))&&!v.out&&decide (v.tick<=now-idle))=false):Qc5 v now idle=true:=by
 unfold Qc5
 rw [Bool.or_eq_true,Bool.or_eq_true]
 by_cases q1:0<((v.lines.length:Nat):Int)
 ·rw [QQ3 q1,Bool.true_and] at h
  cases q2:v.out with
  | true=>exact .inl (.inr rfl)
  | false =>
   rw [q2] at h
   have h3:decide (v.tick<=now-idle)=false:=by simpa using h
   have:=QQ2 h3
   exact .inr (QQ3 (by omega))
 exact .inl (.inl (QQ3 (by omega)))
theorem Qs8 {p:Pst} {c:Vec} {n i:Int} {k:Nat} {out:List Int} (hok:QcW p) (hm:Qbc p c=0) (h:abI p c n i=0) (hk:¬k<(Qag p c).ticks.length) (ho:out=(((Qag p c).ticks.take k).filter fun x=>!Qc5 (QaZ p c x.cart) n i).map (·.cart)):abR p c n i=out:=by
 rw [Qnt h,Qjc hok hm,ho,Qcc hk,List.filter_map];rfl
theorem Qr0 {p:Pst} {c:Vec} {n i:Int} {l:List Lst} {k:Nat} {out:List Int} (ho:out=((l.take k).filter fun x=>!Qc5 (QaZ p c x.cart) n i).map (·.cart)) (hk:k<l.length) (h:Qc5 (QaZ p c (gd l k).cart) n i=false):out++[(gd l k).cart]=((l.take (k+1)).filter fun x=>!Qc5 (QaZ p c x.cart) n i).map (·.cart):=by
 rw [Qbb hk,List.filter_append,List.map_append,← ho];simp [h]
theorem Qqy {p:Pst} {c:Vec} {n i:Int} {l:List Lst} {k:Nat} {out:List Int} (ho:out=((l.take k).filter fun x=>!Qc5 (QaZ p c x.cart) n i).map (·.cart)) (hk:k<l.length) (h:Qc5 (QaZ p c (gd l k).cart) n i=true):out=((l.take (k+1)).filter fun x=>!Qc5 (QaZ p c x.cart) n i).map (·.cart):=by
 rw [Qbb hk,List.filter_append,List.map_append,← ho];simp [h]
end Go.Vx
namespace Go.Vx
theorem Qk2 (s:Sta) (c:Int) (r:Bool):(Qau s c r).cart=c:=by unfold Qau;split<;>rfl
end Go.Vx
namespace Go.Proofs
open Go Go.Vx Go.RowKit
namespace Tt
theorem Qsr:En Tryz.prog 110:=Tryz.call110
theorem Qsq:En Tryz.prog 63:=Tryz.call63
theorem Qvq:En Tryz.prog 64:=Tryz.call64
theorem QvG:En Tryz.prog 67:=Tryz.call67
theorem Qvl:En Tryz.prog 68:=Tryz.call68
theorem QpJ:Tryz.prog.underlying 69=some (.slice 32):=Tryz.underlying69
theorem QvI:Zv Tryz.prog 32 (.int .u16 0):=Tryz.zeroValue32
theorem QuT:Zv Tryz.prog 60 (.slice none 0 0):=Tryz.zeroValue60
end Tt
end Go.Proofs
namespace Go.Vx
def QgF (v:Value) (i:Nat):Value :=
 match v with
 | .tuple vs=>vs.getD i undef
 | _=>undef
def alK:Vec:=vset vzero 0 1
def Qdj:Vec:=vset vzero 0 2
def QqO:Vec:=vset (vset vzero 0 0) 1 1
def alP:Pst:=⟨⟨vzero,[],[]⟩,[Qqf],alK⟩
theorem Qib:QbW alK:=QgD Qb1 _ (by decide) (by decide)
theorem QrE:QbW Qdj:=QgD Qb1 _ (by decide) (by decide)
theorem QrT:QbW QqO:=QgD (QgD Qb1 _ (by decide) (by decide)) _ (by decide) (by decide)
theorem Qg8:QcW alP:=⟨Qhy,fun o ho=>by simp [alP] at ho;subst ho;exact Qr6,Qib⟩
theorem Qfd:Qbc alP alK=0:=by decide +kernel
theorem QmL:Qbc alP vzero=0:=by decide +kernel
theorem QqM:Qbc alP Qdj=11:=by decide +kernel
theorem Qq5:Qbc alP QqO=11:=by decide +kernel
theorem Qmi:Qag alP alK=QnB:=by unfold Qag;rw [if_pos Qfd];rfl
theorem Qs0:Qag alP vzero=szero:=by unfold Qag;rw [if_pos QmL];rfl
theorem Qnv (n:Int):QaZ alP alK n=Qau QnB n (Qam QnB):=by unfold QaZ;rw [Qmi]
theorem Qq6:Qa1 alP alK 3=⟨3,[(⟨4,2⟩:Line)],false,5⟩:=by rw [QiP Qfd,Qnv,Quk]
theorem QtD:QaZ alP vzero 3=⟨3,[],false,0⟩:=by
 unfold QaZ;rw [Qs0]
 have h1:Qam szero=true:=by decide +kernel
 rw [h1]
 show QkZ szero 3=_
 unfold QkZ
 have h2:QeO (Qc9 szero 3)=[]:=by
  show QeO []=[]
  exact Qne
 rw [h2];rfl
theorem QjT:Qaz (Qag alP alK)=[3]:=by
 rw [Qmi];unfold Qaz;rw [if_pos (by decide +kernel)];rfl
theorem Qud:Qc7 alP vzero alK=0:=by rw [Qly QmL Qfd (by decide +kernel)]
theorem QrH:QcP alP vzero alK=[⟨3,4,false,0,2⟩]:=by
 unfold QcP
 rw [if_pos Qud,QjT]
 simp only [List.flatMap_cons,List.flatMap_nil,List.append_nil]
 unfold Qi5
 rw [QtD,Qnv,Quk]
 unfold QeA
 have h:unI [] [(⟨4,2⟩:Line)]=[4]:=by
  show Qa8 _=_
  exact QmI 4
 dsimp only
 rw [h];rfl
theorem QtQ:abI alP alK 9 4=0:=by rw [Qqi Qfd (by decide)]
theorem Qur:abR alP alK 9 4=[3]:=by
 rw [Qnt QtQ,QjT]
 have:Qc5 (QaZ alP alK 3) 9 4=false:=by rw [Qnv,Quk];rfl
 simp [this]
theorem QqS:(Qag alP alK).ents.length=1:=by rw [Qmi];rfl
end Go.Vx
namespace Go.Proofs
open Go Go.Vx Go.RowKit
namespace Tt
theorem Quy (a b:Dif):EqF Tryz.prog 2 83 (.agg (dfc a).toArray) (.agg (dfc b).toArray) (decide (a=b)):=by
 rw [← QrS]
 exact QgU (D:=1) Tryz.underlying83 Tryz.stoodInHeld83 (.cons (by decide) (Qbs ⟨Tryz.sizeOf32,Tryz.isAgg32⟩ rfl) (Qbs ⟨Tryz.sizeOf32,Tryz.isAgg32⟩ rfl) ((QeD Tryz.runUnderlying32).up (by decide)) (.cons (by decide) (Qbs ⟨Tryz.sizeOf32,Tryz.isAgg32⟩ rfl) (Qbs ⟨Tryz.sizeOf32,Tryz.isAgg32⟩ rfl) ((QeD Tryz.runUnderlying32).up (by decide)) (.cons (by decide) (Qbs ⟨Tryz.sizeOf4,Tryz.isAgg4⟩ rfl) (Qbs ⟨Tryz.sizeOf4,Tryz.isAgg4⟩ rfl) ((QoN Tryz.runUnderlying4).up (by decide)) (.cons (by decide) (Qbs ⟨Tryz.sizeOf22,Tryz.isAgg22⟩ rfl) (Qbs ⟨Tryz.sizeOf22,Tryz.isAgg22⟩ rfl) ((QeD Tryz.runUnderlying22).up (by decide)) (.cons (by decide) (Qbs ⟨Tryz.sizeOf22,Tryz.isAgg22⟩ rfl) (Qbs ⟨Tryz.sizeOf22,Tryz.isAgg22⟩ rfl) ((QeD Tryz.runUnderlying22).up (by decide)) .nil)))))
theorem Qh9:Bt Tryz.prog 24 [(0,1),(1,1),(2,1),(3,1),(4,1),(5,1),(6,1),(7,1),(8,1),(9,1),(10,1),(11,1),(12,1),(13,1),(14,1),(15,1)] (vc vzero):=QoI Tryz.type24 rfl rfl Tryz.underlying24 Tryz.type22 rfl (k:=1) rfl
theorem QvS:Bt Tryz.prog 96 [(0,1),(1,1)] (dc (⟨0,0⟩:Dot)):=QbL Tryz.type96 rfl rfl Tryz.underlying96 (by kernel_rfl)
theorem QvC:En Tryz.prog 10:=Tryz.call10
theorem Qvx:En Tryz.prog 11:=Tryz.call11
theorem QuH:En Tryz.prog 13:=Tryz.call13
theorem Qsg:En Tryz.prog 15:=Tryz.call15
theorem Quu:En Tryz.prog 22:=Tryz.call22
theorem Qtz:En Tryz.prog 25:=Tryz.call25
theorem QuZ:En Tryz.prog 26:=Tryz.call26
theorem Qvp:En Tryz.prog 27:=Tryz.call27
theorem QsZ:Ud Tryz.prog 60 (.slice 83):=Tryz.runUnderlying60
theorem Qpl:Ud Tryz.prog 68 (.array 2 22):=Tryz.runUnderlying68
end Tt
end Go.Proofs
namespace Go.Proofs
open Go Go.Vx Go.RowKit
namespace Tt
theorem Qnh (w:World) (s:Sta) (a1:Option Addr) (c1:Nat) (a2:Option Addr) (c2:Nat) (hle:s.ents.length<=100000) (hlt:s.ticks.length<=100000) (hr1:Rd w (.slice a1 s.ents.length c1) 7 (s.ents.map cec)) (hr2:Rd w (.slice a2 s.ticks.length c2) 2 (s.ticks.map lsc)):Calls Tryz.prog 51 #[.agg ((vc s.known)++[(.slice a1 s.ents.length c1:Value),(.slice a2 s.ticks.length c2:Value) ]).toArray] w (fun e w'=>∃ x:(Option Addr × Nat) × (Option Addr × Nat),e = .returned (.agg (vc (s).known++[(.slice x.1.1 (s).ents.length x.1.2:Value),(.slice x.2.1 (s).ticks.length x.2.2:Value)]).toArray)/\Own w no w' [row (.slice x.1.1 (s).ents.length x.1.2) ((s).ents.map cec) 106 7,row (.slice x.2.1 (s).ticks.length x.2.2) ((s).ticks.map lsc) 102 2]/\True):=by
 refine Qaj (n:=40) Tryz.func51 rfl Tryz.ntmps51 rfl ?_
 have hs:=Own.start w
 refine Qah (Qab (Qaa (QaR (V:=.agg ((vc s.known)++[(.slice a1 s.ents.length c1:Value),(.slice a2 s.ticks.length c2:Value) ]).toArray) (cs:=(vc s.known)++[(.slice a1 s.ents.length c1:Value),(.slice a2 s.ticks.length c2:Value) ]) rfl rfl hs fun b1 w2 hs=>(Qaa (QaM (cs:=(vc vzero)++[(.slice none 0 0:Value),(.slice none 0 0:Value) ]) QhF rfl hs fun b3 w4 hs=>(Qaf (Qah (Qab (Qaa (Qae Qgz rfl (Qaa (QbU (vs:=vc s.known) QbB hs 0 rfl rfl rfl rfl (Qaa (Qcz (vs:=[(0,.agg (vc s.known).toArray)]) (cs:=(vc s.known)++[(.slice none 0 0:Value),(.slice none 0 0:Value) ]) [vc vzero,[(.slice none 0 0:Value)],[(.slice none 0 0:Value)]] [vc s.known,[(.slice none 0 0:Value)],[(.slice none 0 0:Value)]] QrW rfl (rfl) rfl rfl (Qaa (QaM (cs:=(vc vzero)++[(.slice none 0 0:Value),(.slice none 0 0:Value) ]) QhF rfl hs fun b5 w6 hs=>(Qaa (QcH (V:=.agg ((vc s.known)++[(.slice none 0 0:Value),(.slice none 0 0:Value) ]).toArray) (vs:=(vc s.known)++[(.slice none 0 0:Value),(.slice none 0 0:Value) ]) (cs':=(vc s.known)++[(.slice none 0 0:Value),(.slice none 0 0:Value) ]) QcD.1 hs 2 rfl rfl rfl rfl rfl (QQ8 rfl) (QbQ (Qcv _) (Qaw rfl (Qaw rfl Qbg))) (QaC rfl) fun w7 hs=>?_))))))))))))))))))
 replace hs:Own w no w7 [blk b1 ((vc s.known)++[(.slice a1 s.ents.length c1:Value),(.slice a2 s.ticks.length c2:Value) ]) 28,blk b3 ((vc vzero)++[(.slice none 0 0:Value),(.slice none 0 0:Value) ]) 38,blk b5 ((vc s.known)++[(.slice none 0 0:Value),(.slice none 0 0:Value) ]) 38]:=hs
 refine Qaf (Qah (Qah (Qab (Qaa (Qae QbR rfl (Qaa (QaE (V:=.slice a1 s.ents.length c1) QdH hs 0 rfl rfl rfl (Qaa (Qa4 (n:=s.ents.length) QcX (Rd.own' hr1 hs) (by simp) rfl (Qaa (Qac (V:=I6 0) rfl (Qaf (Qan ?_)))))))))))))
 replace hs:=hs.more (row (.slice none 0 0) (List.map cec []) 106 7) (Qbk _ _ _ _)
 refine QaA (fun J μ J' w'=>∃ (Jo:Env) (k1:Nat) (an1:Option Addr) (cn1:Nat) (L1:List Cen),J'=upd (mix ([5]++sq 14 11) Jo J) 14 (I6 (k1:Int))/\(k1<=s.ents.length)/\(L1=s.ents.take k1)/\(L1.length<=k1)/\μ=s.ents.length-k1/\Own w no w' [blk b1 ((vc s.known)++[(.slice a1 s.ents.length c1:Value),(.slice a2 s.ticks.length c2:Value) ]) 28,blk b3 ((vc vzero)++[(.slice none 0 0:Value),(.slice none 0 0:Value) ]) 38,blk b5 ((vc s.known)++[(.slice an1 L1.length cn1:Value),(.slice none 0 0:Value) ]) 38,row (.slice an1 L1.length cn1) (L1.map cec) 106 7]) ?_ ?_
 ·exact ⟨_,_,0,none,0,[],Qai (Qap (ds:=([5]++sq 14 11)) (Agr.refl _ _)) rfl,(by omega),rfl,(Nat.le_refl _),rfl,hs⟩
 rintro μ J' w8 ⟨Jo,k1,an1,cn1,L1,rfl,hk1,hL1,hl1,rfl,hs⟩
 have hb1:=hl1
 refine Qah (Qab (Qaa (QaQ rfl rfl (Qaf (Qah (Qao (t:=decide ((k1:Int)<((s.ents.length:Nat):Int))) rfl (fun c9=>?_) (fun c9=>?_)))))))
 ·
  replace c9:=QQ1 c9
  refine Qaq (Qah (Qan (Qah (Qab (Qaa (Qax QcX Qbt.1 (Rd.own' hr1 hs) rfl rfl (by omega) (by rw [QQ6];omega) (Qaa (Qa5 (j:=0) (vs:=cec (gd s.ents k1)) k1 Qbt (Rd.own' hr1 hs) (QaW (by omega)) rfl rfl rfl (by omega) (Qaa (QaM (cs:=cec (⟨0,0,0,0,(⟨0,0⟩:Dot),0⟩:Cen)) QmH rfl hs fun b10 w11 hs=>(Qaa (QcH (V:=.agg (cec (gd s.ents k1)).toArray) (vs:=cec (gd s.ents k1)) (cs':=cec (gd s.ents k1)) Qbt.1 hs 4 rfl rfl rfl rfl rfl (QQ8 rfl) (Qa7 _) (QaC rfl) fun w12 hs=>(Qaf (Qab (Qaa (Qae Qex rfl (Qaa (QaE (V:=.slice an1 L1.length cn1) Qjf hs 2 rfl rfl rfl (Qaa (QaJ (cs:=cec (gd s.ents k1)) Qbt hs 4 rfl rfl rfl (Qaa (Qfb (vals:=[.agg (cec (gd s.ents k1)).toArray]) (ls:=List.map cec ([gd s.ents k1]:List Cen)) Qhi rfl rfl rfl (Qbd (enc:=cec) (fun _=>rfl) _) (QaK Qa7 _) (QQ8 rfl) hs fun b13 w14 hs=>(Qaa (Qb3 (ls':=(L1++[gd s.ents k1]).map cec) (n:=(L1++[gd s.ents k1]).length) Qhi hs 3 rfl rfl rfl (hs.rd 5 rfl) (QaK Qa7 _) (by simp only [QQ6,QQ7,List.length_cons,List.length_nil];omega) (by simp) (by simp) fun a15 c15 w16 hs=>?_))))))))))))))))))))))))
  replace hs:Own w no w16 [blk b1 ((vc s.known)++[(.slice a1 s.ents.length c1:Value),(.slice a2 s.ticks.length c2:Value) ]) 28,blk b3 ((vc vzero)++[(.slice none 0 0:Value),(.slice none 0 0:Value) ]) 38,blk b5 ((vc s.known)++[(.slice an1 L1.length cn1:Value),(.slice none 0 0:Value) ]) 38,row (.slice a15 ((L1++[gd s.ents k1]).length) c15) ((L1++[gd s.ents k1]).map cec) 106 7,blk b10 (cec (gd s.ents k1)) 119,row (.slice (some ⟨b13,0,none⟩) 1 1) ([gd s.ents k1].map cec) 106 7]:=hs
  refine Qaa (Qae Qex rfl (Qaa (Qc2 (V:=.slice a15 ((L1++[gd s.ents k1]).length) c15) (cs':=(vc s.known)++[(.slice a15 ((L1++[gd s.ents k1]).length) c15:Value),(.slice none 0 0:Value) ]) Qjf hs 2 rfl rfl rfl rfl (QQ8 rfl) rfl fun w17 hs=>(Qaf (Qab (Qaa (QaD (a:=(k1:Int)) (b:=1) (c:=((k1+1:Nat):Int)) rfl rfl (Qak (by omega) (by omega)) (Qaa (Qac (V:=I6 ((k1+1:Nat):Int)) rfl (Qaf ?_))))))))))
  refine ⟨_,?_,_,k1+1,a15,c15,L1++[gd s.ents k1],Qai (Qap (ds:=([5]++sq 14 11)) (by repeat (first|exact Agr.refl _ _|refine Agr.upd ?_ rfl|refine Agr.mix ?_ rfl))) rfl,(by omega),(by rw [Qbb (by omega),← hL1]),(by rw [QQ7,List.length_singleton];omega),rfl,hs.take 4⟩
  omega
 replace c9:=QQ2 c9
 refine QaG (Qah (Qah (Qab (Qaa (Qae QcJ rfl (Qaa (QaE (V:=.slice a2 s.ticks.length c2) QfH hs 0 rfl rfl rfl (Qaa (Qa4 (n:=s.ticks.length) Qe6 (Rd.own' hr2 hs) (by simp) rfl (Qaa (Qac (V:=I6 0) rfl (Qaf (Qan ?_)))))))))))))
 replace hs:=hs.more (row (.slice none 0 0) (List.map lsc []) 102 2) (Qbk _ _ _ _)
 refine QaA (fun J μ J' w'=>∃ (Jo:Env) (k2:Nat) (an2:Option Addr) (cn2:Nat) (L2:List Lst),J'=upd (mix ([7]++sq 28 11) Jo J) 28 (I6 (k2:Int))/\(k2<=s.ticks.length)/\(L2=s.ticks.take k2)/\(L2.length<=k2)/\μ=s.ticks.length-k2/\Own w no w' [blk b1 ((vc s.known)++[(.slice a1 s.ents.length c1:Value),(.slice a2 s.ticks.length c2:Value) ]) 28,blk b3 ((vc vzero)++[(.slice none 0 0:Value),(.slice none 0 0:Value) ]) 38,blk b5 ((vc s.known)++[(.slice an1 L1.length cn1:Value),(.slice an2 L2.length cn2:Value) ]) 38,row (.slice an1 L1.length cn1) (L1.map cec) 106 7,row (.slice an2 L2.length cn2) (L2.map lsc) 102 2]) ?_ ?_
 ·exact ⟨_,_,0,none,0,[],Qai (Qap (ds:=([7]++sq 28 11)) (Agr.refl _ _)) rfl,(by omega),rfl,(Nat.le_refl _),rfl,hs⟩
 rintro μ J' w18 ⟨Jo,k2,an2,cn2,L2,rfl,hk2,hL2,hl2,rfl,hs⟩
 have hb2:=hl2
 refine Qah (Qab (Qaa (QaQ rfl rfl (Qaf (Qah (Qao (t:=decide ((k2:Int)<((s.ticks.length:Nat):Int))) rfl (fun c19=>?_) (fun c19=>?_)))))))
 ·
  replace c19:=QQ1 c19
  refine Qaq (Qah (Qan (Qah (Qab (Qaa (Qax Qe6 QcR.1 (Rd.own' hr2 hs) rfl rfl (by omega) (by rw [QQ6];omega) (Qaa (Qa5 (j:=0) (vs:=lsc (gd s.ticks k2)) k2 QcR (Rd.own' hr2 hs) (QaW (by omega)) rfl rfl rfl (by omega) (Qaa (QaM (cs:=lsc (⟨0,0⟩:Lst)) QpI rfl hs fun b20 w21 hs=>(Qaa (QcH (V:=.agg (lsc (gd s.ticks k2)).toArray) (vs:=lsc (gd s.ticks k2)) (cs':=lsc (gd s.ticks k2)) QcR.1 hs 5 rfl rfl rfl rfl rfl (QQ8 rfl) (QbS _) (QaC rfl) fun w22 hs=>(Qaf (Qab (Qaa (Qae Qdf rfl (Qaa (QaE (V:=.slice an2 L2.length cn2) QgK hs 2 rfl rfl rfl (Qaa (QaJ (cs:=lsc (gd s.ticks k2)) QcR hs 5 rfl rfl rfl (Qaa (Qfb (vals:=[.agg (lsc (gd s.ticks k2)).toArray]) (ls:=List.map lsc ([gd s.ticks k2]:List Lst)) QnE rfl rfl rfl (Qbd (enc:=lsc) (fun _=>rfl) _) (QaK QbS _) (QQ8 rfl) hs fun b23 w24 hs=>(Qaa (Qb3 (ls':=(L2++[gd s.ticks k2]).map lsc) (n:=(L2++[gd s.ticks k2]).length) QnE hs 4 rfl rfl rfl (hs.rd 6 rfl) (QaK QbS _) (by simp only [QQ6,QQ7,List.length_cons,List.length_nil];omega) (by simp) (by simp) fun a25 c25 w26 hs=>?_))))))))))))))))))))))))
  replace hs:Own w no w26 [blk b1 ((vc s.known)++[(.slice a1 s.ents.length c1:Value),(.slice a2 s.ticks.length c2:Value) ]) 28,blk b3 ((vc vzero)++[(.slice none 0 0:Value),(.slice none 0 0:Value) ]) 38,blk b5 ((vc s.known)++[(.slice an1 L1.length cn1:Value),(.slice an2 L2.length cn2:Value) ]) 38,row (.slice an1 L1.length cn1) (L1.map cec) 106 7,row (.slice a25 ((L2++[gd s.ticks k2]).length) c25) ((L2++[gd s.ticks k2]).map lsc) 102 2,blk b20 (lsc (gd s.ticks k2)) 125,row (.slice (some ⟨b23,0,none⟩) 1 1) ([gd s.ticks k2].map lsc) 102 2]:=hs
  refine Qaa (Qae Qdf rfl (Qaa (Qc2 (V:=.slice a25 ((L2++[gd s.ticks k2]).length) c25) (cs':=(vc s.known)++[(.slice an1 L1.length cn1:Value),(.slice a25 ((L2++[gd s.ticks k2]).length) c25:Value) ]) QgK hs 2 rfl rfl rfl rfl (QQ8 rfl) rfl fun w27 hs=>(Qaf (Qab (Qaa (QaD (a:=(k2:Int)) (b:=1) (c:=((k2+1:Nat):Int)) rfl rfl (Qak (by omega) (by omega)) (Qaa (Qac (V:=I6 ((k2+1:Nat):Int)) rfl (Qaf ?_))))))))))
  refine ⟨_,?_,_,k2+1,a25,c25,L2++[gd s.ticks k2],Qai (Qap (ds:=([7]++sq 28 11)) (by repeat (first|exact Agr.refl _ _|refine Agr.upd ?_ rfl|refine Agr.mix ?_ rfl))) rfl,(by omega),(by rw [Qbb (by omega),← hL2]),(by rw [QQ7,List.length_singleton];omega),rfl,hs.take 5⟩
  omega
 replace c19:=QQ2 c19
 refine QaG (Qah (Qab (Qaa (QaJ (cs:=(vc s.known)++[(.slice an1 L1.length cn1:Value),(.slice an2 L2.length cn2:Value) ]) QcD hs 2 rfl rfl rfl (Qaa (QcH (V:=.agg ((vc s.known)++[(.slice an1 L1.length cn1:Value),(.slice an2 L2.length cn2:Value) ]).toArray) (vs:=(vc s.known)++[(.slice an1 L1.length cn1:Value),(.slice an2 L2.length cn2:Value) ]) (cs':=(vc s.known)++[(.slice an1 L1.length cn1:Value),(.slice an2 L2.length cn2:Value) ]) QcD.1 hs 1 rfl rfl rfl rfl rfl (QQ8 rfl) (QbQ (Qcv _) (Qaw rfl (Qaw rfl Qbg))) (QaC rfl) fun w28 hs=>(Qaf (Qav ?_))))))))
 refine ⟨_,QcA (cs:=(vc s.known)++[(.slice an1 L1.length cn1:Value),(.slice an2 L2.length cn2:Value) ]) Tryz.results51 QcD hs 1 rfl rfl rfl,?_⟩
 have hX:L1=s.ents:=by rw [hL1,List.take_of_length_le (by omega)]
 have hY:L2=s.ticks:=by rw [hL2,List.take_of_length_le (by omega)]
 rw [hX,hY] at hs ⊢
 exact ⟨((an1,cn1),(an2,cn2)),rfl,hs.two 3 4 (by decide) rfl rfl,trivial⟩
end Tt
end Go.Proofs
namespace Go.Proofs
open Go Go.Vx Go.RowKit
namespace Tt
theorem Qet (w:World) (x:Int):Calls Tryz.prog 146 #[.int .u8 x] w (fun e w'=>e = .returned (.bool false)/\Own w no w' []):=by
 refine Qaj (n:=6) Tryz.func146 rfl Tryz.ntmps146 rfl ?_
 have hs:=Own.start w
 refine Qah (Qab (Qaa (Qad (V:=.bool false) rfl (Qaf (Qah (Qab (Qaa (Qac (V:=.int .u8 x) rfl (Qaa (Qac (V:=.int .u8 x) rfl (Qaa (Qch rfl rfl (Qaa (Qad (V:=.bool (!decide (x=x))) rfl (Qaf (Qav ?_))))))))))))))))
 refine ⟨_,Qar (V:=.bool (!decide (x=x))) Tryz.results146 rfl,(Zr hs ?_)⟩
 simp
theorem Qd5 (w:World) (x y:Int):Calls Tryz.prog 94 #[.int .u8 x,.int .u8 y] w (fun e w'=>e = .returned (.int .i64 (Qa3 x y))/\Own w no w' []):=by
 refine Qaj (n:=20) Tryz.func94 rfl Tryz.ntmps94 rfl ?_
 have hs:=Own.start w
 refine Qah (Qab (Qaa (Qad (V:=I6 0) rfl (Qaf (Qah (Qab (Qaa (Qac (V:=.int .u8 x) rfl (Qaa (Qat (vs:=[.int .u8 x]) (V:=.bool false) Qp4 rfl rfl ?hc hs fun w1 hs=>?_))))))))))
 case hc=>exact (Qet _ x)
 refine Qaa (Qad (V:=.bool false) rfl (Qaf (Qah (Qab (Qaa (Qac (V:=.int .u8 y) rfl (Qaa (Qat (vs:=[.int .u8 y]) (V:=.bool false) Qp4 rfl rfl ?hc hs fun w2 hs=>?_))))))))
 case hc=>exact (Qet _ y)
 refine Qaa (Qad (V:=.bool false) rfl (Qaf (Qah (Qah (Qab (Qaa (Qac (V:=.bool false) rfl (Qaf (Qcr rfl ?_)))))))))
 refine Qaq (Qah (Qah (Qab (Qaa (Qac (V:=.bool false) rfl (Qaf (Qcr rfl ?_)))))))
 refine Qaq (Qah (Qah (Qab (Qaa (Qac (V:=.int .u8 x) rfl (Qaa (Qac (V:=.int .u8 y) rfl (Qaa (QaQ rfl rfl (Qaf (Qao (t:=decide (x<y)) rfl (fun c3=>?_) (fun c3=>?_))))))))))))
 ·
  replace c3:=QQ1 c3
  refine Qah (Qab (Qaa (Qad (V:=I6 (-1)) rfl (Qaf (Qav ?_)))))
  refine ⟨_,Qar (V:=I6 (-1)) Tryz.results94 rfl,(Zr hs ?_)⟩
  rw [QcI,if_pos c3]
 replace c3:=QQ2 c3
 refine Qaq (Qah (Qah (Qab (Qaa (Qac (V:=.int .u8 x) rfl (Qaa (Qac (V:=.int .u8 y) rfl (Qaa (QbP rfl rfl (Qaf (Qao (t:=decide (y<x)) rfl (fun c4=>?_) (fun c4=>?_))))))))))))
 ·
  replace c4:=QQ1 c4
  refine Qah (Qab (Qaa (Qad (V:=I6 1) rfl (Qaf (Qav ?_)))))
  refine ⟨_,Qar (V:=I6 1) Tryz.results94 rfl,(Zr hs ?_)⟩
  rw [QcI,if_neg c3,if_pos c4]
 replace c4:=QQ2 c4
 refine Qaq (Qah (Qab (Qaa (Qad (V:=I6 0) rfl (Qaf (Qav ?_))))))
 refine ⟨_,Qar (V:=I6 0) Tryz.results94 rfl,(Zr hs ?_)⟩
 rw [QcI,if_neg c3,if_neg c4]
theorem QdU (w:World) (x:Int):Calls Tryz.prog 127 #[.int .u16 x] w (fun e w'=>e = .returned (.bool false)/\Own w no w' []):=by
 refine Qaj (n:=6) Tryz.func127 rfl Tryz.ntmps127 rfl ?_
 have hs:=Own.start w
 refine Qah (Qab (Qaa (Qad (V:=.bool false) rfl (Qaf (Qah (Qab (Qaa (Qac (V:=I7 x) rfl (Qaa (Qac (V:=I7 x) rfl (Qaa (Qch rfl rfl (Qaa (Qad (V:=.bool (!decide (x=x))) rfl (Qaf (Qav ?_))))))))))))))))
 refine ⟨_,Qar (V:=.bool (!decide (x=x))) Tryz.results127 rfl,(Zr hs ?_)⟩
 simp
theorem QcT (w:World) (x y:Int):Calls Tryz.prog 77 #[.int .u16 x,.int .u16 y] w (fun e w'=>e = .returned (.int .i64 (Qa3 x y))/\Own w no w' []):=by
 refine Qaj (n:=20) Tryz.func77 rfl Tryz.ntmps77 rfl ?_
 have hs:=Own.start w
 refine Qah (Qab (Qaa (Qad (V:=I6 0) rfl (Qaf (Qah (Qab (Qaa (Qac (V:=I7 x) rfl (Qaa (Qat (vs:=[I7 x]) (V:=.bool false) QlK rfl rfl ?hc hs fun w1 hs=>?_))))))))))
 case hc=>exact (QdU _ x)
 refine Qaa (Qad (V:=.bool false) rfl (Qaf (Qah (Qab (Qaa (Qac (V:=I7 y) rfl (Qaa (Qat (vs:=[I7 y]) (V:=.bool false) QlK rfl rfl ?hc hs fun w2 hs=>?_))))))))
 case hc=>exact (QdU _ y)
 refine Qaa (Qad (V:=.bool false) rfl (Qaf (Qah (Qah (Qab (Qaa (Qac (V:=.bool false) rfl (Qaf (Qcr rfl ?_)))))))))
 refine Qaq (Qah (Qah (Qab (Qaa (Qac (V:=.bool false) rfl (Qaf (Qcr rfl ?_)))))))
 refine Qaq (Qah (Qah (Qab (Qaa (Qac (V:=I7 x) rfl (Qaa (Qac (V:=I7 y) rfl (Qaa (QaQ rfl rfl (Qaf (Qao (t:=decide (x<y)) rfl (fun c3=>?_) (fun c3=>?_))))))))))))
 ·
  replace c3:=QQ1 c3
  refine Qah (Qab (Qaa (Qad (V:=I6 (-1)) rfl (Qaf (Qav ?_)))))
  refine ⟨_,Qar (V:=I6 (-1)) Tryz.results77 rfl,(Zr hs ?_)⟩
  rw [QcI,if_pos c3]
 replace c3:=QQ2 c3
 refine Qaq (Qah (Qah (Qab (Qaa (Qac (V:=I7 x) rfl (Qaa (Qac (V:=I7 y) rfl (Qaa (QbP rfl rfl (Qaf (Qao (t:=decide (y<x)) rfl (fun c4=>?_) (fun c4=>?_))))))))))))
 ·
  replace c4:=QQ1 c4
  refine Qah (Qab (Qaa (Qad (V:=I6 1) rfl (Qaf (Qav ?_)))))
  refine ⟨_,Qar (V:=I6 1) Tryz.results77 rfl,(Zr hs ?_)⟩
  rw [QcI,if_neg c3,if_pos c4]
 replace c4:=QQ2 c4
 refine Qaq (Qah (Qab (Qaa (Qad (V:=I6 0) rfl (Qaf (Qav ?_))))))
 refine ⟨_,Qar (V:=I6 0) Tryz.results77 rfl,(Zr hs ?_)⟩
 rw [QcI,if_neg c3,if_neg c4]
theorem QdS (w:World) (x:Int):Calls Tryz.prog 147 #[.int .u32 x] w (fun e w'=>e = .returned (.bool false)/\Own w no w' []):=by
 refine Qaj (n:=6) Tryz.func147 rfl Tryz.ntmps147 rfl ?_
 have hs:=Own.start w
 refine Qah (Qab (Qaa (Qad (V:=.bool false) rfl (Qaf (Qah (Qab (Qaa (Qac (V:=.int .u32 x) rfl (Qaa (Qac (V:=.int .u32 x) rfl (Qaa (Qch rfl rfl (Qaa (Qad (V:=.bool (!decide (x=x))) rfl (Qaf (Qav ?_))))))))))))))))
 refine ⟨_,Qar (V:=.bool (!decide (x=x))) Tryz.results147 rfl,(Zr hs ?_)⟩
 simp
theorem QdI (w:World) (x y:Int):Calls Tryz.prog 95 #[.int .u32 x,.int .u32 y] w (fun e w'=>e = .returned (.int .i64 (Qa3 x y))/\Own w no w' []):=by
 refine Qaj (n:=20) Tryz.func95 rfl Tryz.ntmps95 rfl ?_
 have hs:=Own.start w
 refine Qah (Qab (Qaa (Qad (V:=I6 0) rfl (Qaf (Qah (Qab (Qaa (Qac (V:=.int .u32 x) rfl (Qaa (Qat (vs:=[.int .u32 x]) (V:=.bool false) QpO rfl rfl ?hc hs fun w1 hs=>?_))))))))))
 case hc=>exact (QdS _ x)
 refine Qaa (Qad (V:=.bool false) rfl (Qaf (Qah (Qab (Qaa (Qac (V:=.int .u32 y) rfl (Qaa (Qat (vs:=[.int .u32 y]) (V:=.bool false) QpO rfl rfl ?hc hs fun w2 hs=>?_))))))))
 case hc=>exact (QdS _ y)
 refine Qaa (Qad (V:=.bool false) rfl (Qaf (Qah (Qah (Qab (Qaa (Qac (V:=.bool false) rfl (Qaf (Qcr rfl ?_)))))))))
 refine Qaq (Qah (Qah (Qab (Qaa (Qac (V:=.bool false) rfl (Qaf (Qcr rfl ?_)))))))
 refine Qaq (Qah (Qah (Qab (Qaa (Qac (V:=.int .u32 x) rfl (Qaa (Qac (V:=.int .u32 y) rfl (Qaa (QaQ rfl rfl (Qaf (Qao (t:=decide (x<y)) rfl (fun c3=>?_) (fun c3=>?_))))))))))))
 ·
  replace c3:=QQ1 c3
  refine Qah (Qab (Qaa (Qad (V:=I6 (-1)) rfl (Qaf (Qav ?_)))))
  refine ⟨_,Qar (V:=I6 (-1)) Tryz.results95 rfl,(Zr hs ?_)⟩
  rw [QcI,if_pos c3]
 replace c3:=QQ2 c3
 refine Qaq (Qah (Qah (Qab (Qaa (Qac (V:=.int .u32 x) rfl (Qaa (Qac (V:=.int .u32 y) rfl (Qaa (QbP rfl rfl (Qaf (Qao (t:=decide (y<x)) rfl (fun c4=>?_) (fun c4=>?_))))))))))))
 ·
  replace c4:=QQ1 c4
  refine Qah (Qab (Qaa (Qad (V:=I6 1) rfl (Qaf (Qav ?_)))))
  refine ⟨_,Qar (V:=I6 1) Tryz.results95 rfl,(Zr hs ?_)⟩
  rw [QcI,if_neg c3,if_pos c4]
 replace c4:=QQ2 c4
 refine Qaq (Qah (Qab (Qaa (Qad (V:=I6 0) rfl (Qaf (Qav ?_))))))
 refine ⟨_,Qar (V:=I6 0) Tryz.results95 rfl,(Zr hs ?_)⟩
 rw [QcI,if_neg c3,if_neg c4]
theorem Qd3 (w:World) (x:Int):Calls Tryz.prog 171 #[.int .u64 x] w (fun e w'=>e = .returned (.bool false)/\Own w no w' []):=by
 refine Qaj (n:=6) Tryz.func171 rfl Tryz.ntmps171 rfl ?_
 have hs:=Own.start w
 refine Qah (Qab (Qaa (Qad (V:=.bool false) rfl (Qaf (Qah (Qab (Qaa (Qac (V:=.int .u64 x) rfl (Qaa (Qac (V:=.int .u64 x) rfl (Qaa (Qch rfl rfl (Qaa (Qad (V:=.bool (!decide (x=x))) rfl (Qaf (Qav ?_))))))))))))))))
 refine ⟨_,Qar (V:=.bool (!decide (x=x))) Tryz.results171 rfl,(Zr hs ?_)⟩
 simp
theorem QhE (w:World) (x y:Int):Calls Tryz.prog 158 #[.int .u64 x,.int .u64 y] w (fun e w'=>e = .returned (.int .i64 (Qa3 x y))/\Own w no w' []):=by
 refine Qaj (n:=20) Tryz.func158 rfl Tryz.ntmps158 rfl ?_
 have hs:=Own.start w
 refine Qah (Qab (Qaa (Qad (V:=I6 0) rfl (Qaf (Qah (Qab (Qaa (Qac (V:=.int .u64 x) rfl (Qaa (Qat (vs:=[.int .u64 x]) (V:=.bool false) QpX rfl rfl ?hc hs fun w1 hs=>?_))))))))))
 case hc=>exact (Qd3 _ x)
 refine Qaa (Qad (V:=.bool false) rfl (Qaf (Qah (Qab (Qaa (Qac (V:=.int .u64 y) rfl (Qaa (Qat (vs:=[.int .u64 y]) (V:=.bool false) QpX rfl rfl ?hc hs fun w2 hs=>?_))))))))
 case hc=>exact (Qd3 _ y)
 refine Qaa (Qad (V:=.bool false) rfl (Qaf (Qah (Qah (Qab (Qaa (Qac (V:=.bool false) rfl (Qaf (Qcr rfl ?_)))))))))
 refine Qaq (Qah (Qah (Qab (Qaa (Qac (V:=.bool false) rfl (Qaf (Qcr rfl ?_)))))))
 refine Qaq (Qah (Qah (Qab (Qaa (Qac (V:=.int .u64 x) rfl (Qaa (Qac (V:=.int .u64 y) rfl (Qaa (QaQ rfl rfl (Qaf (Qao (t:=decide (x<y)) rfl (fun c3=>?_) (fun c3=>?_))))))))))))
 ·
  replace c3:=QQ1 c3
  refine Qah (Qab (Qaa (Qad (V:=I6 (-1)) rfl (Qaf (Qav ?_)))))
  refine ⟨_,Qar (V:=I6 (-1)) Tryz.results158 rfl,(Zr hs ?_)⟩
  rw [QcI,if_pos c3]
 replace c3:=QQ2 c3
 refine Qaq (Qah (Qah (Qab (Qaa (Qac (V:=.int .u64 x) rfl (Qaa (Qac (V:=.int .u64 y) rfl (Qaa (QbP rfl rfl (Qaf (Qao (t:=decide (y<x)) rfl (fun c4=>?_) (fun c4=>?_))))))))))))
 ·
  replace c4:=QQ1 c4
  refine Qah (Qab (Qaa (Qad (V:=I6 1) rfl (Qaf (Qav ?_)))))
  refine ⟨_,Qar (V:=I6 1) Tryz.results158 rfl,(Zr hs ?_)⟩
  rw [QcI,if_neg c3,if_pos c4]
 replace c4:=QQ2 c4
 refine Qaq (Qah (Qab (Qaa (Qad (V:=I6 0) rfl (Qaf (Qav ?_))))))
 refine ⟨_,Qar (V:=I6 0) Tryz.results158 rfl,(Zr hs ?_)⟩
 rw [QcI,if_neg c3,if_neg c4]
theorem QrN (w:World) (a:Option Addr) (c:Nat) (l:List Int) (hr:Rd w (.slice a l.length c) 1 (l.map (ic .i64))):Calls Tryz.prog 93 #[.slice a l.length c] w (fun e w'=>e = .returned (.int .i64 (orI l))/\Own w no w' []):=by
 refine Qaj (n:=18) Tryz.func93 rfl Tryz.ntmps93 rfl ?_
 have hs:=Own.start w
 have hn:=hr.sml
 refine Qah (Qab (Qaa (Qad (V:=I6 0) rfl (Qaf (Qah (Qab (Qaa (Qad (V:=I6 0) rfl (Qaf (Qah (Qah (Qab (Qaa (Qac (V:=.slice a l.length c) rfl (Qaa (Qa4 (n:=l.length) QpT (Rd.own' hr hs) (by simp) rfl (Qaa (Qac (V:=I6 0) rfl (Qaf (Qan (QaA (fun J μ J' w'=>∃ (Jo:Env) (k:Nat),J'=upd (mix ([2,5]++sq 8 9) Jo J) 8 (I6 (k:Int))/\(k<=l.length)/\(∀ j:Nat,j<k->gd l j=0)/\μ=l.length-k/\Own w no w' []) ?_ ?_)))))))))))))))))))))
 ·exact ⟨_,_,0,Qai (Qap (ds:=([2,5]++sq 8 9)) (Agr.refl _ _)) rfl,(by omega),(fun j hj=>absurd hj (Nat.not_lt_zero j)),rfl,hs⟩
 rintro μ J' w1 ⟨Jo,k,rfl,hk,h0,rfl,hs⟩
 refine Qah (Qab (Qaa (QaQ rfl rfl (Qaf (Qah (Qao (t:=decide ((k:Int)<((l.length:Nat):Int))) rfl (fun c2=>?_) (fun c2=>?_)))))))
 ·
  replace c2:=QQ1 c2
  refine Qaq (Qah (Qan (Qah (Qab (Qaa (Qax QpT QqP.1 (Rd.own' hr hs) rfl rfl (by omega) (by rw [QQ6];omega) (Qaa (QaP (j:=0) (V:=I6 (gd l k)) k QqP (Rd.own' hr hs) (QaW (by omega)) rfl rfl (by omega) (Qaa (Qad (V:=I6 (gd l k)) rfl (Qaf (Qah (Qab (Qaa (Qac (V:=I6 (gd l k)) rfl (Qaa (Qac (V:=I6 0) rfl (Qaa (Qch rfl rfl (Qaf (Qao (t:=!decide (gd l k=0)) rfl (fun c3=>?_) (fun c3=>?_))))))))))))))))))))))
  ·
   replace c3:=Qbp c3
   replace c3:=QQ2 c3
   refine Qah (Qab (Qaa (Qac (V:=I6 (gd l k)) rfl (Qaa (Qad (V:=I6 (gd l k)) rfl (Qaf (Qav ?_)))))))
   refine ⟨_,Qar (V:=I6 (gd l k)) Tryz.results93 rfl,(Zr hs ?_)⟩
   exact congrArg (Value.int IntKind.i64) (QrQ (by omega) h0 c3).symm
  replace c3:=Qbf c3
  replace c3:=QQ1 c3
  refine Qaq (Qab (Qaa (QaD (a:=(k:Int)) (b:=1) (c:=(k:Int)+1) rfl rfl (QbH (by omega) (by omega)) (Qaa (Qac (V:=I6 ((k:Int)+1)) rfl (Qaf ?_))))))
  refine ⟨_,?_,_,k+1,Qai (Qap (ds:=([2,5]++sq 8 9)) (by repeat (first|exact Agr.refl _ _|refine Agr.upd ?_ rfl|refine Agr.mix ?_ rfl))) rfl,(by omega),(QrM h0 c3),rfl,hs.take 0⟩
  omega
 replace c2:=QQ2 c2
 refine QaG (Qah (Qab (Qaa (Qac (V:=I6 0) rfl (Qaa (Qad (V:=I6 0) rfl (Qaf (Qav ?_))))))))
 refine ⟨_,Qar (V:=I6 0) Tryz.results93 rfl,(Zr hs ?_)⟩
 exact congrArg (Value.int IntKind.i64) (Qtf fun j hj=>h0 j (by omega)).symm
end Tt
end Go.Proofs
namespace Go.Proofs
open Go Go.Vx Go.RowKit
namespace Tt
theorem QmA (w:World) (a:Option Addr) (c:Nat) (l:List Cen) (hN:l.length*25<=140737488355328) (hr:Rd w (.slice a l.length c) 7 (l.map cec)):Calls Tryz.prog 39 #[.slice a l.length c] w (fun e w'=>∃ x:Option Addr × Nat,e = .returned (.slice x.1 (l).length x.2)/\Own w no w' [row (.slice x.1 (l).length x.2) ((l).map cec) 106 7]/\True):=by
 refine Qaj (n:=8) Tryz.func39 rfl Tryz.ntmps39 rfl ?_
 have hs:=Own.start w
 have hn:=hr.sml
 refine Qah (Qab (Qaa (Qad (V:=.slice none 0 0) rfl (Qaf (Qah (Qah (Qab (Qaa (Qac (V:=.slice a l.length c) rfl (Qaa (QvH QhY rfl rfl (Qaf (Qao (t:=a.isNone) rfl (fun c1=>?_) (fun c1=>?_))))))))))))))
 ·
  refine Qah (Qab (Qaa (Qad (V:=.slice none 0 0) rfl (Qaf (Qav ?_)))))
  refine ⟨_,Qar (V:=.slice none 0 0) Tryz.results39 rfl,?_⟩
  have hl0:=hr.isN c1
  subst hl0
  exact ⟨(none,0),rfl,(hs.take 0).more _ (Qbk _ _ _ _),trivial⟩
 refine Qaq (Qah (Qab (Qaa (Qfb (vals:=[]) (ls:=List.map cec ([]:List Cen)) Qhi rfl rfl rfl (Qbd (enc:=cec) (fun _=>rfl) _) (QaK Qa7 _) (QQ8 rfl) hs fun b2 w3 hs=>(Qaa (Qac (V:=.slice a l.length c) rfl (Qaa (Qb3 (ls':=l.map cec) (n:=l.length) Qhi hs 0 rfl rfl rfl (Rd.own' hr hs) (QaK Qa7 _) (by simp only [QQ6,QQ7,List.length_cons,List.length_nil];omega) (by simp) (by simp) fun a4 c4 w5 hs=>(Qaa (Qad (V:=.slice a4 l.length c4) rfl (Qaf (Qav ?_))))))))))))
 refine ⟨_,Qar (V:=.slice a4 l.length c4) Tryz.results39 rfl,?_⟩
 exact ⟨(a4,c4),rfl,hs.only 0 rfl,trivial⟩
theorem Qm2 (w:World) (a:Option Addr) (c:Nat) (l:List Lst) (t:Int) (hsmall:l.length<=4611686018427387904) (g:Nat) (hg:En Tryz.prog g) (cf:Lst->Int) (hcmp:∀ (w:World) (x:Lst),Calls Tryz.prog g #[.agg (lsc x).toArray,.int .u16 t] w (fun e w'=>e = .returned (.int .i64 (cf x))/\Own w no w' [])) (hm:QrG (fun x=>decide (cf x<0)) l) (hr:Rd w (.slice a l.length c) 2 (l.map lsc)):Calls Tryz.prog 124 #[.slice a l.length c,.int .u16 t,.func (.func g) #[] #[]] w (fun e w'=>e = .returned (.tuple #[.int .i64 ((QeJ (fun x=>decide (cf x<0)) l:Nat):Int),.bool (decide (QeJ (fun x=>decide (cf x<0)) l<l.length)&&decide (cf (gd l (QeJ (fun x=>decide (cf x<0)) l))=0))])/\Own w no w' []):=by
 refine Qaj (n:=49) Tryz.func124 rfl Tryz.ntmps124 rfl ?_
 have hs:=Own.start w
 have hn:=hr.sml
 have hn2:l.length<=4611686018427387904:=hsmall
 refine Qah (Qab (Qaa (Qad (V:=I6 0) rfl (Qaa (Qad (V:=.bool false) rfl (Qaf (Qah (Qab (Qaa (Qac (V:=.slice a l.length c) rfl (Qaa (Qa4 (n:=l.length) Qgx (Rd.own' hr hs) (by simp) rfl (Qaa (Qad (V:=I6 ((l.length:Nat):Int)) rfl (Qaf (Qah (Qab (Qaa (Qac (V:=I6 ((l.length:Nat):Int)) rfl (Qaa (Qad (V:=I6 0) rfl (Qaa (Qad (V:=I6 ((l.length:Nat):Int)) rfl (Qaf (Qah (Qan (QaA (fun J μ J' w'=>∃ (Jo:Env) (i:Nat) (j:Nat),J'=upd (upd (mix ([9,10,11]++sq 15 20) Jo J) 9 (I6 (i:Int))) 10 (I6 (j:Int))/\(i<=QeJ (fun x=>decide (cf x<0)) l)/\(QeJ (fun x=>decide (cf x<0)) l<=j)/\(j<=l.length)/\μ=j-i/\Own w no w' []) ?_ ?_)))))))))))))))))))))))))))
 ·exact ⟨_,_,0,l.length,Qai (Qai (Qap (ds:=([9,10,11]++sq 15 20)) (Agr.refl _ _)) rfl) rfl,(Nat.zero_le _),Qpm,(Nat.le_refl _),rfl,hs⟩
 rintro μ J' w1 ⟨Jo,i,j,rfl,hip,hpj,hjl,rfl,hs⟩
 refine Qah (Qah (Qab (Qaa (Qac (V:=I6 (i:Int)) rfl (Qaa (Qac (V:=I6 (j:Int)) rfl (Qaa (QaQ rfl rfl (Qaf (Qao (t:=decide ((i:Int)<(j:Int))) rfl (fun c2=>?_) (fun c2=>?_)))))))))))
 ·
  replace c2:=QQ1 c2
  refine Qaq (Qan (Qah (Qab (Qaa (Qac (V:=I6 (i:Int)) rfl (Qaa (Qac (V:=I6 (j:Int)) rfl (Qaa (QaD (a:=(i:Int)) (b:=(j:Int)) (c:=((i+j:Nat):Int)) rfl rfl (Qak (by omega) (by omega)) (Qaa (Qb5 QhS QdN rfl (Qdd (by omega) (by omega)) (Qaa (Qh6 rfl rfl (Qaa (Qb5 QdN QhS rfl (QbH (by omega) (by omega)) (Qaa (Qad (V:=I6 (((i+j)/2:Nat):Int)) rfl (Qaf (Qah (Qab (Qaa (Qac (V:=.func (.func g) #[] #[]) rfl (Qaa (Qac (V:=.slice a l.length c) rfl (Qaa (Qac (V:=I6 (((i+j)/2:Nat):Int)) rfl (Qaa (Qax Qgx QcZ.1 (Rd.own' hr hs) rfl rfl (by omega) (by rw [QQ6];omega) (Qaa (Qa5 (j:=0) (vs:=lsc (gd l ((i+j)/2))) ((i+j)/2) QcZ (Rd.own' hr hs) (QaW (by omega)) rfl rfl rfl (by omega) (Qaa (Qac (V:=I7 t) rfl (Qaa (Qgg (vs:=[.agg (lsc (gd l ((i+j)/2))).toArray,I7 t]) (cs:=[]) (V:=I6 (cf (gd l ((i+j)/2)))) hg rfl rfl (hcmp _ (gd l ((i+j)/2))) hs fun w3 hs=>(Qaa (QaQ rfl rfl (Qaf (Qao (t:=decide (cf (gd l ((i+j)/2))<0)) rfl (fun c4=>?_) (fun c4=>?_)))))))))))))))))))))))))))))))))))))))
  ·
   replace c4:=QQ1 c4
   refine Qab (Qaa (Qac (V:=I6 (((i+j)/2:Nat):Int)) rfl (Qaa (QaD (a:=(((i+j)/2:Nat):Int)) (b:=1) (c:=((((i+j)/2)+1:Nat):Int)) rfl rfl (Qak (by omega) (by omega)) (Qaa (Qad (V:=I6 ((((i+j)/2)+1:Nat):Int)) rfl (Qaf ?_)))))))
   refine ⟨_,?_,_,((i+j)/2)+1,j,Qai (Qai (Qap (ds:=([9,10,11]++sq 15 20)) (by repeat (first|exact Agr.refl _ _|refine Agr.upd ?_ rfl|refine Agr.mix ?_ rfl))) rfl) rfl,(by have:=QqH (f:=(fun x=>decide (cf x<0))) hm (by omega) (QQ3 c4);omega),(by omega),(by omega),rfl,hs.take 0⟩
   omega
  replace c4:=QQ2 c4
  refine Qab (Qaa (Qac (V:=I6 (((i+j)/2:Nat):Int)) rfl (Qaa (Qad (V:=I6 (((i+j)/2:Nat):Int)) rfl (Qaf ?_)))))
  refine ⟨_,?_,_,i,(i+j)/2,Qai (Qai (Qap (ds:=([9,10,11]++sq 15 20)) (by repeat (first|exact Agr.refl _ _|refine Agr.upd ?_ rfl|refine Agr.mix ?_ rfl))) rfl) rfl,(by omega),(by have:=Qi1 (f:=(fun x=>decide (cf x<0))) (l:=l) (QQ4 c4);omega),(by omega),rfl,hs.take 0⟩
  omega
 replace c2:=QQ2 c2
 refine QaG (Qah ?_)
 have hij:i=j:=by omega
 refine Qbh [some 35,some 36,some 37,some 38,some 39,some 40,some 41,some 42,some 43,some 44,some 45,some 46,some 47,some 48,some 6,some 7] [] [0,0,0,6,14,30,30,30,222,478,30,2046,4094,8190,4095,32767] [pv (I6 (i:Int)),pv (I6 (i:Int)),pv (I6 ((l.length:Nat):Int)),pv (.bool (decide ((i:Int)<((l.length:Nat):Int)))),pv (.bool (decide ((i:Int)<((l.length:Nat):Int)))),pg ((decide ((i:Int)<((l.length:Nat):Int))) == true) (.func (.func g) #[] #[]),pg ((decide ((i:Int)<((l.length:Nat):Int))) == true) (.slice a l.length c),pg ((decide ((i:Int)<((l.length:Nat):Int))) == true) (I6 (i:Int)),pg ((decide ((i:Int)<((l.length:Nat):Int))) == true) (.pointer (some ⟨bkS (.slice a l.length c),ofS (.slice a l.length c)+(i:Int).toNat*2,none⟩)),pg ((decide ((i:Int)<((l.length:Nat):Int))) == true) (.agg (lsc (gd l i)).toArray),pg ((decide ((i:Int)<((l.length:Nat):Int))) == true) (I7 t),pg ((decide ((i:Int)<((l.length:Nat):Int))) == true) (I6 (cf (gd l i))),pg ((decide ((i:Int)<((l.length:Nat):Int))) == true) (.bool (decide (cf (gd l i)=0))),pv (.bool ((decide ((i:Int)<((l.length:Nat):Int)))&&(decide (cf (gd l i)=0)))),pv (I6 (i:Int)),pv (.bool ((decide ((i:Int)<((l.length:Nat):Int)))&&(decide (cf (gd l i)=0))))] (fun _ _=>_) [15,14] (by kernel_rfl) hs ⟨?_,?_,?_,?_,?_,?_,?_,?_,?_,?_,?_,?_,?_,?_,?_,?_,trivial⟩ ?_
 ·exact oa [] fun D J w hs=>Qac (V:=.int .i64 (i:Int)) rfl (Zz hs)
 ·exact oa [] fun D J w hs=>Qac (V:=.int .i64 (i:Int)) rfl (Zz hs)
 ·exact oa [] fun D J w hs=>Qac (V:=.int .i64 ((l.length:Nat):Int)) rfl (Zz hs)
 ·exact oa [1,2] fun D J w hs=>QaQ rfl rfl (Zz hs)
 ·exact oa [3] fun D J w hs=>Qac (V:=.bool (decide ((i:Int)<((l.length:Nat):Int)))) rfl (Zz hs)
 ·exact og [4] fun D J w hG hs=>Qac (V:=.func (.func g) #[] #[]) rfl (Zz hs)
 ·exact og [4] fun D J w hG hs=>Qac (V:=.slice a l.length c) rfl (Zz hs)
 ·exact og [4] fun D J w hG hs=>Qac (V:=.int .i64 (i:Int)) rfl (Zz hs)
 ·refine oy [4,6,7] [6,7] fun D J w hG hs=>?_
  have hgd:=QQ1 (eq_of_beq (hG))
  exact Qax Qgx QcZ.1 (Rd.own' hr hs) rfl rfl (by omega) (by rw [QQ6];omega) (Zz hs)
 ·refine oy [4,8] [8] fun D J w hG hs=>?_
  have hgd:=QQ1 (eq_of_beq (hG))
  exact Qa5 (j:=0) (vs:=lsc (gd l i)) i QcZ (Rd.own' hr hs) (QaW (by omega)) rfl rfl rfl (by omega) (Zz hs)
 ·exact og [4] fun D J w hG hs=>Qac (V:=.int .u16 t) rfl (Zz hs)
 ·exact oy [4,5,9,10] [5,9,10] fun D J w hG hs=>Qgg (vs:=[.agg (lsc (gd l i)).toArray,.int .u16 t]) (cs:=[]) (V:=.int .i64 (cf (gd l i))) hg rfl rfl (hcmp _ (gd l i)) hs fun _ hs=>Zz hs
 ·exact oy [4,11] [11] fun D J w hG hs=>QaS rfl rfl (Zz hs)
 ·exact oa [4,12] fun D J w hs=>Qa2 (h':=decide (cf (gd l i)=0)) rfl rfl rfl (Zz hs)
 ·exact oa [0] fun D J w hs=>Qad (V:=.int .i64 (i:Int)) rfl (Zz hs)
 ·exact oa [13] fun D J w hs=>Qad (V:=.bool ((decide ((i:Int)<((l.length:Nat):Int)))&&(decide (cf (gd l i)=0)))) rfl (Zz hs)
 rintro J1 w6 J2 hJ hs
 replace hJ:J2=upd (upd (mix (sq 35 14++[6,7]) J1 _) 6 (I6 (i:Int))) 7 (.bool ((decide ((i:Int)<((l.length:Nat):Int)))&&(decide (cf (gd l i)=0)))):=hJ
 subst hJ
 refine Qav ?_
 refine ⟨_,Qbq (U:=I6 (i:Int)) (V:=.bool ((decide ((i:Int)<((l.length:Nat):Int)))&&(decide (cf (gd l i)=0)))) Tryz.results124 rfl rfl,(Zr hs ?_)⟩
 have hip2:i=QeJ (fun x=>decide (cf x<0)) l:=by omega
 rw [← hip2]
 congr 3
 by_cases h:i<l.length<;>simp [h]
end Tt
end Go.Proofs
namespace Go.Proofs
open Go Go.Vx Go.RowKit
namespace Tt
theorem Qn5 (w:World) (x y:Cen):Calls Tryz.prog 120 #[.agg (cec x).toArray,.agg (cec y).toArray] w (fun e w'=>e = .returned (.int .i64 (Qcu x y))/\Own w no w' []):=by
 refine Qaj (n:=26) Tryz.func120 rfl Tryz.ntmps120 rfl ?_
 have hs:=Own.start w
 refine Qah (Qab (Qaa (QaR (V:=.agg (cec x).toArray) (cs:=cec x) rfl rfl hs fun b1 w2 hs=>(Qaa (QaR (V:=.agg (cec y).toArray) (cs:=cec y) rfl rfl hs fun b3 w4 hs=>(Qaa (Qad (V:=I6 0) rfl (Qaf (Qah ?_)))))))))
 replace hs:=hs.more emp trivial
 refine QaH HM [some 5,some 6,some 7,some 8,some 9,some 10,some 11,some 12,some 13,some 14,some 15,some 16,some 17,some 18,some 19,some 20,some 21,some 22,some 23,some 24,some 25,some 4] [[],[],[],[],[],[],[],[],[],[],[],[],[],[],[],[],[],[],[],[24]] [0,1,0,4,15,0,32,96,0,256,768,2047,0,4096,12288,0,32768,98304,262143,524287,1048575,2097151] [pv (Pq b1 (0+0)),pv (I7 x.cart),pv (Pq b3 (0+0)),pv (I7 y.cart),pv (I6 (Qa3 x.cart y.cart)),pv (Pq b1 (0+4)),pv (Pq b1 (0+4+0)),pv (.int .u8 x.dot.rep),pv (Pq b3 (0+4)),pv (Pq b3 (0+4+0)),pv (.int .u8 y.dot.rep),pv (I6 (Qa3 x.dot.rep y.dot.rep)),pv (Pq b1 (0+4)),pv (Pq b1 (0+4+1)),pv (.int .u32 x.dot.seq),pv (Pq b3 (0+4)),pv (Pq b3 (0+4+1)),pv (.int .u32 y.dot.seq),pv (I6 (Qa3 x.dot.seq y.dot.seq)),(true,fun J=>.slice (some ⟨(bOf (J 24)),0,none⟩) 3 3),pv (I6 (orI [Qa3 x.cart y.cart,Qa3 x.dot.rep y.dot.rep,Qa3 x.dot.seq y.dot.seq])),pv (I6 (orI [Qa3 x.cart y.cart,Qa3 x.dot.rep y.dot.rep,Qa3 x.dot.seq y.dot.seq]))] (fun D J=>[blk b1 (cec x) 106,blk b3 (cec y) 106,cond (D 19) (row (.slice (some ⟨(bOf (J 24)),0,none⟩) 3 3) ([Qa3 x.cart y.cart,Qa3 x.dot.rep y.dot.rep,Qa3 x.dot.seq y.dot.seq].map (ic .i64)) 3 1) (emp)]) [21] (by kernel_rfl) hs ⟨?_,?_,?_,?_,?_,?_,?_,?_,?_,?_,?_,?_,?_,?_,?_,?_,?_,?_,?_,?_,?_,?_,trivial⟩ ?_
 ·exact oa [] fun D J w hs=>Qae QdJ rfl (Zz hs)
 ·exact oa [0] fun D J w hs=>QaE (V:=.int .u16 x.cart) Qas hs 0 rfl rfl rfl (Zz hs)
 ·exact oa [] fun D J w hs=>Qae QdJ rfl (Zz hs)
 ·exact oa [2] fun D J w hs=>QaE (V:=.int .u16 y.cart) Qas hs 1 rfl rfl rfl (Zz hs)
 ·exact oa [1,3] fun D J w hs=>Qat (vs:=[.int .u16 x.cart,.int .u16 y.cart]) (V:=.int .i64 (Qa3 x.cart y.cart)) Qoz rfl rfl (QcT _ x.cart y.cart) hs fun _ hs=>Zz hs
 ·exact oa [] fun D J w hs=>Qae QbJ rfl (Zz hs)
 ·exact oa [5] fun D J w hs=>Qae QbE rfl (Zz hs)
 ·exact oa [6] fun D J w hs=>QaE (V:=.int .u8 x.dot.rep) QcF hs 0 rfl rfl rfl (Zz hs)
 ·exact oa [] fun D J w hs=>Qae QbJ rfl (Zz hs)
 ·exact oa [8] fun D J w hs=>Qae QbE rfl (Zz hs)
 ·exact oa [9] fun D J w hs=>QaE (V:=.int .u8 y.dot.rep) QcF hs 1 rfl rfl rfl (Zz hs)
 ·exact oa [7,10] fun D J w hs=>Qat (vs:=[.int .u8 x.dot.rep,.int .u8 y.dot.rep]) (V:=.int .i64 (Qa3 x.dot.rep y.dot.rep)) QqR rfl rfl (Qd5 _ x.dot.rep y.dot.rep) hs fun _ hs=>Zz hs
 ·exact oa [] fun D J w hs=>Qae QbJ rfl (Zz hs)
 ·exact oa [12] fun D J w hs=>Qae QbM rfl (Zz hs)
 ·exact oa [13] fun D J w hs=>QaE (V:=.int .u32 x.dot.seq) QaY hs 0 rfl rfl rfl (Zz hs)
 ·exact oa [] fun D J w hs=>Qae QbJ rfl (Zz hs)
 ·exact oa [15] fun D J w hs=>Qae QbM rfl (Zz hs)
 ·exact oa [16] fun D J w hs=>QaE (V:=.int .u32 y.dot.seq) QaY hs 1 rfl rfl rfl (Zz hs)
 ·exact oa [14,17] fun D J w hs=>Qat (vs:=[.int .u32 x.dot.seq,.int .u32 y.dot.seq]) (V:=.int .i64 (Qa3 x.dot.seq y.dot.seq)) Qrz rfl rfl (QdI _ x.dot.seq y.dot.seq) hs fun _ hs=>Zz hs
 ·exact oa [4,11,18] fun D J w hs=>Qfb (vals:=[.int .i64 (Qa3 x.cart y.cart),.int .i64 (Qa3 x.dot.rep y.dot.rep),.int .i64 (Qa3 x.dot.seq y.dot.seq)]) (ls:=List.map (ic .i64) ([Qa3 x.cart y.cart,Qa3 x.dot.rep y.dot.rep,Qa3 x.dot.seq y.dot.seq]:List Int)) Qlu rfl rfl rfl (Qbd (enc:=(ic .i64)) (fun _=>rfl) _) (QaK (Qev .i64) _) (QQ8 rfl) hs fun _ _ hs=>⟨rfl,hs.put 2 (QQ8 rfl)⟩
 ·exact oa [19] fun D J w hs=>Qat (vs:=[.slice (some ⟨(bOf (J 24)),0,none⟩) 3 3]) (V:=.int .i64 (orI [Qa3 x.cart y.cart,Qa3 x.dot.rep y.dot.rep,Qa3 x.dot.seq y.dot.seq])) Qqz rfl rfl (QrN _ (some ⟨(bOf (J 24)),0,none⟩) 3 [Qa3 x.cart y.cart,Qa3 x.dot.rep y.dot.rep,Qa3 x.dot.seq y.dot.seq] (hs.rd 2 rfl)) hs fun _ hs=>Zz hs
 ·exact oa [20] fun D J w hs=>Qad (V:=.int .i64 (orI [Qa3 x.cart y.cart,Qa3 x.dot.rep y.dot.rep,Qa3 x.dot.seq y.dot.seq])) rfl (Zz hs)
 rintro J1 w10 J2 hJ hs
 replace hJ:J2=upd (mix (sq 5 21++[4]) J1 _) 4 (I6 (orI [Qa3 x.cart y.cart,Qa3 x.dot.rep y.dot.rep,Qa3 x.dot.seq y.dot.seq])):=hJ
 replace hs:Own w no w10 [blk b1 (cec x) 106,blk b3 (cec y) 106,row (.slice (some ⟨(bOf (J1 24)),0,none⟩) 3 3) ([Qa3 x.cart y.cart,Qa3 x.dot.rep y.dot.rep,Qa3 x.dot.seq y.dot.seq].map (ic .i64)) 3 1]:=hs
 generalize (bOf (J1 24))=b11 at hs
 subst hJ
 refine Qav ?_
 refine ⟨_,Qar (V:=I6 (orI [Qa3 x.cart y.cart,Qa3 x.dot.rep y.dot.rep,Qa3 x.dot.seq y.dot.seq])) Tryz.results120 rfl,(Zr hs ?_)⟩
 rfl
theorem Qle (w:World) (x:Cen) (hx:Qe5 x):Calls Tryz.prog 123 #[.agg (cec x).toArray] w (fun e w'=>e = .returned (.bool (QaT x))/\Own w no w' []):=by
 refine Qaj (n:=25) Tryz.func123 rfl Tryz.ntmps123 rfl ?_
 have hs:=Own.start w
 refine Qah (Qab (Qaa (QaR (V:=.agg (cec x).toArray) (cs:=cec x) rfl rfl hs fun b1 w2 hs=>(Qaa (Qad (V:=.bool false) rfl (Qaf (Qah (Qah (Qab (Qaa (Qae Qe0 rfl (Qaa (QaE (V:=.int .u8 x.kind) QcF hs 0 rfl rfl rfl (Qaf (Qan (Qah (Qab (Qaa (QaS rfl rfl (Qaa (Qad (V:=.bool (decide (x.kind=1))) rfl (Qaf (Qao (t:=decide (x.kind=1)) rfl (fun c3=>?_) (fun c3=>?_))))))))))))))))))))))))
 ·
  replace c3:=QQ1 c3
  refine Qah (Qab (Qaa (Qae QeS rfl (Qaa (QaE (V:=I7 x.qty) Qas hs 0 rfl rfl rfl (Qaa (QbP rfl rfl (Qaa (Qad (V:=.bool (decide (0<x.qty))) rfl (Qaf (Qav ?_)))))))))))
  refine ⟨_,Qar (V:=.bool (decide (0<x.qty))) Tryz.results123 rfl,(Zr hs (congrArg Value.bool ?_))⟩
  unfold QaT
  have ⟨_,_,⟨hq1,hq2⟩,_,_,_⟩:=hx
  simp_all [Bool.and_assoc]
  try omega
 replace c3:=QQ2 c3
 refine Qah (Qab (Qaa (QaS rfl rfl (Qaa (Qad (V:=.bool (decide (x.kind=2))) rfl (Qaf (Qao (t:=decide (x.kind=2)) rfl (fun c4=>?_) (fun c4=>?_))))))))
 ·
  replace c4:=QQ1 c4
  refine Qah (Qab (Qaa (Qad (V:=.bool true) rfl (Qaf (Qav ?_)))))
  refine ⟨_,Qar (V:=.bool true) Tryz.results123 rfl,(Zr hs (congrArg Value.bool ?_))⟩
  unfold QaT
  have ⟨_,_,⟨hq1,hq2⟩,_,_,_⟩:=hx
  simp_all [Bool.and_assoc]
  try omega
 replace c4:=QQ2 c4
 refine Qaq (Qah (Qbh [some 12,some 13,some 14,some 15,some 16,some 17,some 18,some 19,some 20,some 21,some 22,some 23,some 24,some 2] [] [0,1,3,7,15,31,63,127,255,511,1023,2047,4095,8191] [pv (Pq b1 (0+3)),pv (.int .u8 x.kind),pv (.bool (decide (x.kind=4))),pv (.bool (decide (x.kind=4))),pg ((decide (x.kind=4)) == true) (Pq b1 (0+1)),pg ((decide (x.kind=4)) == true) (I7 x.item),pg ((decide (x.kind=4)) == true) (.bool (decide (x.item=0))),pv (.bool ((decide (x.kind=4))&&(decide (x.item=0)))),pv (.bool ((decide (x.kind=4))&&(decide (x.item=0)))),pg (((decide (x.kind=4))&&(decide (x.item=0))) == true) (Pq b1 (0+2)),pg (((decide (x.kind=4))&&(decide (x.item=0))) == true) (I7 x.qty),pg (((decide (x.kind=4))&&(decide (x.item=0))) == true) (.bool (decide (x.qty=0))),pv (.bool (((decide (x.kind=4))&&(decide (x.item=0)))&&(decide (x.qty=0)))),pv (.bool (((decide (x.kind=4))&&(decide (x.item=0)))&&(decide (x.qty=0))))] (fun _ _=>_) [13] (by kernel_rfl) hs ⟨?_,?_,?_,?_,?_,?_,?_,?_,?_,?_,?_,?_,?_,?_,trivial⟩ ?_))
 ·exact oa [] fun D J w hs=>Qae Qe0 rfl (Zz hs)
 ·exact oa [0] fun D J w hs=>QaE (V:=.int .u8 x.kind) QcF hs 0 rfl rfl rfl (Zz hs)
 ·exact oa [1] fun D J w hs=>QaS rfl rfl (Zz hs)
 ·exact oa [2] fun D J w hs=>Qac (V:=.bool (decide (x.kind=4))) rfl (Zz hs)
 ·exact og [3] fun D J w hG hs=>Qae QdA rfl (Zz hs)
 ·exact oy [3,4] [4] fun D J w hG hs=>QaE (V:=.int .u16 x.item) Qas hs 0 rfl rfl rfl (Zz hs)
 ·exact oy [3,5] [5] fun D J w hG hs=>QaS rfl rfl (Zz hs)
 ·exact oa [3,6] fun D J w hs=>Qa2 (h':=decide (x.item=0)) rfl rfl rfl (Zz hs)
 ·exact oa [7] fun D J w hs=>Qac (V:=.bool ((decide (x.kind=4))&&(decide (x.item=0)))) rfl (Zz hs)
 ·exact og [8] fun D J w hG hs=>Qae QeS rfl (Zz hs)
 ·exact oy [8,9] [9] fun D J w hG hs=>QaE (V:=.int .u16 x.qty) Qas hs 0 rfl rfl rfl (Zz hs)
 ·exact oy [8,10] [10] fun D J w hG hs=>QaS rfl rfl (Zz hs)
 ·exact oa [8,11] fun D J w hs=>Qa2 (h':=decide (x.qty=0)) rfl rfl rfl (Zz hs)
 ·exact oa [12] fun D J w hs=>Qad (V:=.bool (((decide (x.kind=4))&&(decide (x.item=0)))&&(decide (x.qty=0)))) rfl (Zz hs)
 rintro J1 w5 J2 hJ hs
 replace hJ:J2=upd (mix (sq 12 13++[2]) J1 _) 2 (.bool (((decide (x.kind=4))&&(decide (x.item=0)))&&(decide (x.qty=0)))):=hJ
 subst hJ
 refine Qav ?_
 refine ⟨_,Qar (V:=.bool (((decide (x.kind=4))&&(decide (x.item=0)))&&(decide (x.qty=0)))) Tryz.results123 rfl,(Zr hs (congrArg Value.bool ?_))⟩
 unfold QaT
 have ⟨_,_,⟨hq1,hq2⟩,_,_,_⟩:=hx
 simp_all [Bool.and_assoc]
 try omega
theorem QkD (w:World) (x:Cen) (hx:Qe5 x):Calls Tryz.prog 166 #[.agg (cec x).toArray] w (fun e w'=>e = .returned (.bool (QaT x))/\Own w no w' []):=by
 refine Qaj (n:=25) Tryz.func166 rfl Tryz.ntmps166 rfl ?_
 have hs:=Own.start w
 refine Qah (Qab (Qaa (QaR (V:=.agg (cec x).toArray) (cs:=cec x) rfl rfl hs fun b1 w2 hs=>(Qaa (Qad (V:=.bool false) rfl (Qaf (Qah (Qah (Qab (Qaa (Qae Qeg rfl (Qaa (QaE (V:=.int .u8 x.kind) QcF hs 0 rfl rfl rfl (Qaf (Qan (Qah (Qab (Qaa (QaS rfl rfl (Qaa (Qad (V:=.bool (decide (x.kind=1))) rfl (Qaf (Qao (t:=decide (x.kind=1)) rfl (fun c3=>?_) (fun c3=>?_))))))))))))))))))))))))
 ·
  replace c3:=QQ1 c3
  refine Qah (Qab (Qaa (Qae Qe7 rfl (Qaa (QaE (V:=I7 x.qty) Qas hs 0 rfl rfl rfl (Qaa (Qct rfl rfl (Qaa (Qad (V:=.bool (decide (1<=x.qty))) rfl (Qaf (Qav ?_)))))))))))
  refine ⟨_,Qar (V:=.bool (decide (1<=x.qty))) Tryz.results166 rfl,(Zr hs (congrArg Value.bool ?_))⟩
  unfold QaT
  have ⟨_,_,⟨hq1,hq2⟩,_,_,_⟩:=hx
  simp_all [Bool.and_assoc]
  try omega
 replace c3:=QQ2 c3
 refine Qah (Qab (Qaa (QaS rfl rfl (Qaa (Qad (V:=.bool (decide (x.kind=2))) rfl (Qaf (Qao (t:=decide (x.kind=2)) rfl (fun c4=>?_) (fun c4=>?_))))))))
 ·
  replace c4:=QQ1 c4
  refine Qah (Qab (Qaa (Qad (V:=.bool true) rfl (Qaf (Qav ?_)))))
  refine ⟨_,Qar (V:=.bool true) Tryz.results166 rfl,(Zr hs (congrArg Value.bool ?_))⟩
  unfold QaT
  have ⟨_,_,⟨hq1,hq2⟩,_,_,_⟩:=hx
  simp_all [Bool.and_assoc]
  try omega
 replace c4:=QQ2 c4
 refine Qaq (Qah (Qbh [some 12,some 13,some 14,some 15,some 16,some 17,some 18,some 19,some 20,some 21,some 22,some 23,some 24,some 2] [] [0,1,3,7,15,31,63,127,255,511,1023,2047,4095,8191] [pv (Pq b1 (0+3)),pv (.int .u8 x.kind),pv (.bool (decide (x.kind=4))),pv (.bool (decide (x.kind=4))),pg ((decide (x.kind=4)) == true) (Pq b1 (0+1)),pg ((decide (x.kind=4)) == true) (I7 x.item),pg ((decide (x.kind=4)) == true) (.bool (decide (x.item=0))),pv (.bool ((decide (x.kind=4))&&(decide (x.item=0)))),pv (.bool ((decide (x.kind=4))&&(decide (x.item=0)))),pg (((decide (x.kind=4))&&(decide (x.item=0))) == true) (Pq b1 (0+2)),pg (((decide (x.kind=4))&&(decide (x.item=0))) == true) (I7 x.qty),pg (((decide (x.kind=4))&&(decide (x.item=0))) == true) (.bool (decide (x.qty=0))),pv (.bool (((decide (x.kind=4))&&(decide (x.item=0)))&&(decide (x.qty=0)))),pv (.bool (((decide (x.kind=4))&&(decide (x.item=0)))&&(decide (x.qty=0))))] (fun _ _=>_) [13] (by kernel_rfl) hs ⟨?_,?_,?_,?_,?_,?_,?_,?_,?_,?_,?_,?_,?_,?_,trivial⟩ ?_))
 ·exact oa [] fun D J w hs=>Qae Qeg rfl (Zz hs)
 ·exact oa [0] fun D J w hs=>QaE (V:=.int .u8 x.kind) QcF hs 0 rfl rfl rfl (Zz hs)
 ·exact oa [1] fun D J w hs=>QaS rfl rfl (Zz hs)
 ·exact oa [2] fun D J w hs=>Qac (V:=.bool (decide (x.kind=4))) rfl (Zz hs)
 ·exact og [3] fun D J w hG hs=>Qae QfN rfl (Zz hs)
 ·exact oy [3,4] [4] fun D J w hG hs=>QaE (V:=.int .u16 x.item) Qas hs 0 rfl rfl rfl (Zz hs)
 ·exact oy [3,5] [5] fun D J w hG hs=>QaS rfl rfl (Zz hs)
 ·exact oa [3,6] fun D J w hs=>Qa2 (h':=decide (x.item=0)) rfl rfl rfl (Zz hs)
 ·exact oa [7] fun D J w hs=>Qac (V:=.bool ((decide (x.kind=4))&&(decide (x.item=0)))) rfl (Zz hs)
 ·exact og [8] fun D J w hG hs=>Qae Qe7 rfl (Zz hs)
 ·exact oy [8,9] [9] fun D J w hG hs=>QaE (V:=.int .u16 x.qty) Qas hs 0 rfl rfl rfl (Zz hs)
 ·exact oy [8,10] [10] fun D J w hG hs=>QaS rfl rfl (Zz hs)
 ·exact oa [8,11] fun D J w hs=>Qa2 (h':=decide (x.qty=0)) rfl rfl rfl (Zz hs)
 ·exact oa [12] fun D J w hs=>Qad (V:=.bool (((decide (x.kind=4))&&(decide (x.item=0)))&&(decide (x.qty=0)))) rfl (Zz hs)
 rintro J1 w5 J2 hJ hs
 replace hJ:J2=upd (mix (sq 12 13++[2]) J1 _) 2 (.bool (((decide (x.kind=4))&&(decide (x.item=0)))&&(decide (x.qty=0)))):=hJ
 subst hJ
 refine Qav ?_
 refine ⟨_,Qar (V:=.bool (((decide (x.kind=4))&&(decide (x.item=0)))&&(decide (x.qty=0)))) Tryz.results166 rfl,(Zr hs (congrArg Value.bool ?_))⟩
 unfold QaT
 have ⟨_,_,⟨hq1,hq2⟩,_,_,_⟩:=hx
 simp_all [Bool.and_assoc]
 try omega
theorem QoY (w:World) (x:Lst) (c:Int):Calls Tryz.prog 125 #[.agg (lsc x).toArray,.int .u16 c] w (fun e w'=>e = .returned (.int .i64 (Qa3 x.cart c))/\Own w no w' []):=by
 refine Qaj (n:=9) Tryz.func125 rfl Tryz.ntmps125 rfl ?_
 have hs:=Own.start w
 refine Qah (Qab (Qaa (QaR (V:=.agg (lsc x).toArray) (cs:=lsc x) rfl rfl hs fun b1 w2 hs=>(Qaa (Qad (V:=I6 0) rfl (Qaf (Qah (Qab (Qaa (Qae QeY rfl (Qaa (QaE (V:=I7 x.cart) Qas hs 0 rfl rfl rfl (Qaa (Qac (V:=I7 c) rfl (Qaa (Qat (vs:=[I7 x.cart,I7 c]) (V:=I6 (Qa3 x.cart c)) Qoz rfl rfl ?hc hs fun w3 hs=>?_))))))))))))))))
 case hc=>exact (QcT _ x.cart c)
 refine Qaa (Qad (V:=I6 (Qa3 x.cart c)) rfl (Qaf (Qav ?_)))
 refine ⟨_,Qar (V:=I6 (Qa3 x.cart c)) Tryz.results125 rfl,(Zr hs ?_)⟩
 rfl
theorem QjL (w:World) (kn:Vec) (v1:Value) (a2:Option Addr) (c2:Nat) (ts:List Lst) (c:Int) (hlt:ts.length<=100000) (hT:Qdy ts) (hr2:Rd w (.slice a2 ts.length c2) 2 (ts.map lsc)):Calls Tryz.prog 74 #[.agg ((vc kn)++[(v1:Value),(.slice a2 ts.length c2:Value) ]).toArray,.int .u16 c] w (fun e w'=>e = .returned (.tuple #[.int .i64 ((Qew ts c:Nat):Int),.bool (QaB ts c).isSome])/\Own w no w' []):=by
 refine Qaj (n:=12) Tryz.func74 rfl Tryz.ntmps74 rfl ?_
 have hs:=Own.start w
 refine Qah (Qab (Qaa (QaR (V:=.agg ((vc kn)++[(v1:Value),(.slice a2 ts.length c2:Value) ]).toArray) (cs:=(vc kn)++[(v1:Value),(.slice a2 ts.length c2:Value) ]) rfl rfl hs fun b1 w2 hs=>(Qaa (Qad (V:=I6 0) rfl (Qaa (Qad (V:=.bool false) rfl (Qaf (Qah (Qab (Qaa (Qae Qdf rfl (Qaa (QaE (V:=.slice a2 ts.length c2) QgK hs 0 rfl rfl rfl (Qaa (Qac (V:=I7 c) rfl (Qaa (Qki (vs:=[.slice a2 ts.length c2,I7 c,.func (.func 125) #[] #[]]) (V:=.tuple #[I6 ((QeJ (fun x=>decide ((fun x:Lst=>Qa3 x.cart c) x<0)) ts:Nat):Int),.bool (decide (QeJ (fun x=>decide ((fun x:Lst=>Qa3 x.cart c) x<0)) ts<ts.length)&&decide ((fun x:Lst=>Qa3 x.cart c) (gd ts (QeJ (fun x=>decide ((fun x:Lst=>Qa3 x.cart c) x<0)) ts))=0))]) (V':=.tuple #[I6 ((Qew ts c:Nat):Int),.bool ((QaB ts c).isSome)]) (by rw [← QkK hT c];rfl) Qst rfl rfl (Qm2 _ a2 c2 ts c (by omega) 125 Qub (fun x:Lst=>Qa3 x.cart c) (fun w x=>QoY w x c) (Qm7 hT c) (Rd.own' hr2 hs)) hs fun w3 hs=>(Qaa (Qay (V:=I6 ((Qew ts c:Nat):Int)) rfl rfl (Qaa (Qay (V:=.bool ((QaB ts c).isSome)) rfl rfl (Qaa (Qad (V:=I6 ((Qew ts c:Nat):Int)) rfl (Qaa (Qad (V:=.bool ((QaB ts c).isSome)) rfl (Qaf (Qav ?_))))))))))))))))))))))))))))
 refine ⟨_,Qbq (U:=I6 ((Qew ts c:Nat):Int)) (V:=.bool ((QaB ts c).isSome)) Tryz.results74 rfl rfl,(Zr hs ?_)⟩
 rfl
end Tt
end Go.Proofs
namespace Go.Proofs
open Go Go.Vx Go.RowKit
namespace Tt
theorem QqD (w:World) (d:Dot):Calls Tryz.prog 86 #[.agg (dc d).toArray] w (fun e w'=>e = .returned (.bool (Qb8 d))/\Own w no w' []):=by
 refine Qaj (n:=16) Tryz.func86 rfl Tryz.ntmps86 rfl ?_
 have hs:=Own.start w
 refine Qah (Qab (Qaa (QaR (V:=.agg (dc d).toArray) (cs:=dc d) rfl rfl hs fun b1 w2 hs=>(Qaa (Qad (V:=.bool false) rfl (Qaf (Qah (Qbh [some 3,some 4,some 5,some 6,some 7,some 8,some 9,some 10,some 11,some 12,some 13,some 14,some 15,some 2] [] [0,1,3,7,15,31,63,127,255,511,1023,2047,4095,8191] [pv (Pq b1 (0+0)),pv (.int .u8 d.rep),pv (.bool (decide (d.rep<16))),pv (.bool (decide (d.rep<16))),pg ((decide (d.rep<16)) == true) (Pq b1 (0+1)),pg ((decide (d.rep<16)) == true) (.int .u32 d.seq),pg ((decide (d.rep<16)) == true) (.bool (decide (1<=d.seq))),pv (.bool ((decide (d.rep<16))&&(decide (1<=d.seq)))),pv (.bool ((decide (d.rep<16))&&(decide (1<=d.seq)))),pg (((decide (d.rep<16))&&(decide (1<=d.seq))) == true) (Pq b1 (0+1)),pg (((decide (d.rep<16))&&(decide (1<=d.seq))) == true) (.int .u32 d.seq),pg (((decide (d.rep<16))&&(decide (1<=d.seq))) == true) (.bool (decide (d.seq<=1048576))),pv (.bool (((decide (d.rep<16))&&(decide (1<=d.seq)))&&(decide (d.seq<=1048576)))),pv (.bool (((decide (d.rep<16))&&(decide (1<=d.seq)))&&(decide (d.seq<=1048576))))] (fun _ _=>_) [13] (by kernel_rfl) hs ⟨?_,?_,?_,?_,?_,?_,?_,?_,?_,?_,?_,?_,?_,?_,trivial⟩ ?_))))))))
 ·exact oa [] fun D J w hs=>Qae QbE rfl (Zz hs)
 ·exact oa [0] fun D J w hs=>QaE (V:=.int .u8 d.rep) QcF hs 0 rfl rfl rfl (Zz hs)
 ·exact oa [1] fun D J w hs=>QaQ rfl rfl (Zz hs)
 ·exact oa [2] fun D J w hs=>Qac (V:=.bool (decide (d.rep<16))) rfl (Zz hs)
 ·exact og [3] fun D J w hG hs=>Qae QbM rfl (Zz hs)
 ·exact oy [3,4] [4] fun D J w hG hs=>QaE (V:=.int .u32 d.seq) QaY hs 0 rfl rfl rfl (Zz hs)
 ·exact oy [3,5] [5] fun D J w hG hs=>Qct rfl rfl (Zz hs)
 ·exact oa [3,6] fun D J w hs=>Qa2 (h':=decide (1<=d.seq)) rfl rfl rfl (Zz hs)
 ·exact oa [7] fun D J w hs=>Qac (V:=.bool ((decide (d.rep<16))&&(decide (1<=d.seq)))) rfl (Zz hs)
 ·exact og [8] fun D J w hG hs=>Qae QbM rfl (Zz hs)
 ·exact oy [8,9] [9] fun D J w hG hs=>QaE (V:=.int .u32 d.seq) QaY hs 0 rfl rfl rfl (Zz hs)
 ·exact oy [8,10] [10] fun D J w hG hs=>Qc6 rfl rfl (Zz hs)
 ·exact oa [8,11] fun D J w hs=>Qa2 (h':=decide (d.seq<=1048576)) rfl rfl rfl (Zz hs)
 ·exact oa [12] fun D J w hs=>Qad (V:=.bool (((decide (d.rep<16))&&(decide (1<=d.seq)))&&(decide (d.seq<=1048576)))) rfl (Zz hs)
 rintro J1 w3 J2 hJ hs
 replace hJ:J2=upd (mix (sq 3 13++[2]) J1 _) 2 (.bool (((decide (d.rep<16))&&(decide (1<=d.seq)))&&(decide (d.seq<=1048576)))):=hJ
 subst hJ
 refine Qav ?_
 refine ⟨_,Qar (V:=.bool (((decide (d.rep<16))&&(decide (1<=d.seq)))&&(decide (d.seq<=1048576)))) Tryz.results86 rfl,(Zr hs ?_)⟩
 rfl
theorem Qnq (w:World) (d:Dot):Calls Tryz.prog 112 #[.agg (dc d).toArray] w (fun e w'=>e = .returned (.bool (Qb8 d))/\Own w no w' []):=by
 refine Qaj (n:=16) Tryz.func112 rfl Tryz.ntmps112 rfl ?_
 have hs:=Own.start w
 refine Qah (Qab (Qaa (QaR (V:=.agg (dc d).toArray) (cs:=dc d) rfl rfl hs fun b1 w2 hs=>(Qaa (Qad (V:=.bool false) rfl (Qaf (Qah (Qbh [some 3,some 4,some 5,some 6,some 7,some 8,some 9,some 10,some 11,some 12,some 13,some 14,some 15,some 2] [] [0,1,3,7,15,31,63,127,255,511,1023,2047,4095,8191] [pv (Pq b1 (0+0)),pv (.int .u8 d.rep),pv (.bool (decide (d.rep<16))),pv (.bool (decide (d.rep<16))),pg ((decide (d.rep<16)) == true) (Pq b1 (0+1)),pg ((decide (d.rep<16)) == true) (.int .u32 d.seq),pg ((decide (d.rep<16)) == true) (.bool (decide (1<=d.seq))),pv (.bool ((decide (d.rep<16))&&(decide (1<=d.seq)))),pv (.bool ((decide (d.rep<16))&&(decide (1<=d.seq)))),pg (((decide (d.rep<16))&&(decide (1<=d.seq))) == true) (Pq b1 (0+1)),pg (((decide (d.rep<16))&&(decide (1<=d.seq))) == true) (.int .u32 d.seq),pg (((decide (d.rep<16))&&(decide (1<=d.seq))) == true) (.bool (decide (d.seq<=1048576))),pv (.bool (((decide (d.rep<16))&&(decide (1<=d.seq)))&&(decide (d.seq<=1048576)))),pv (.bool (((decide (d.rep<16))&&(decide (1<=d.seq)))&&(decide (d.seq<=1048576))))] (fun _ _=>_) [13] (by kernel_rfl) hs ⟨?_,?_,?_,?_,?_,?_,?_,?_,?_,?_,?_,?_,?_,?_,trivial⟩ ?_))))))))
 ·exact oa [] fun D J w hs=>Qae QbE rfl (Zz hs)
 ·exact oa [0] fun D J w hs=>QaE (V:=.int .u8 d.rep) QcF hs 0 rfl rfl rfl (Zz hs)
 ·exact oa [1] fun D J w hs=>QaQ rfl rfl (Zz hs)
 ·exact oa [2] fun D J w hs=>Qac (V:=.bool (decide (d.rep<16))) rfl (Zz hs)
 ·exact og [3] fun D J w hG hs=>Qae QbM rfl (Zz hs)
 ·exact oy [3,4] [4] fun D J w hG hs=>QaE (V:=.int .u32 d.seq) QaY hs 0 rfl rfl rfl (Zz hs)
 ·exact oy [3,5] [5] fun D J w hG hs=>Qct rfl rfl (Zz hs)
 ·exact oa [3,6] fun D J w hs=>Qa2 (h':=decide (1<=d.seq)) rfl rfl rfl (Zz hs)
 ·exact oa [7] fun D J w hs=>Qac (V:=.bool ((decide (d.rep<16))&&(decide (1<=d.seq)))) rfl (Zz hs)
 ·exact og [8] fun D J w hG hs=>Qae QbM rfl (Zz hs)
 ·exact oy [8,9] [9] fun D J w hG hs=>QaE (V:=.int .u32 d.seq) QaY hs 0 rfl rfl rfl (Zz hs)
 ·exact oy [8,10] [10] fun D J w hG hs=>Qc6 rfl rfl (Zz hs)
 ·exact oa [8,11] fun D J w hs=>Qa2 (h':=decide (d.seq<=1048576)) rfl rfl rfl (Zz hs)
 ·exact oa [12] fun D J w hs=>Qad (V:=.bool (((decide (d.rep<16))&&(decide (1<=d.seq)))&&(decide (d.seq<=1048576)))) rfl (Zz hs)
 rintro J1 w3 J2 hJ hs
 replace hJ:J2=upd (mix (sq 3 13++[2]) J1 _) 2 (.bool (((decide (d.rep<16))&&(decide (1<=d.seq)))&&(decide (d.seq<=1048576)))):=hJ
 subst hJ
 refine Qav ?_
 refine ⟨_,Qar (V:=.bool (((decide (d.rep<16))&&(decide (1<=d.seq)))&&(decide (d.seq<=1048576)))) Tryz.results112 rfl,(Zr hs ?_)⟩
 rfl
theorem QhL (w:World) (v:Vec) (d:Dot) (hd:QcU d):Calls Tryz.prog 40 #[.agg (vc v).toArray,.agg (dc d).toArray] w (fun e w'=>e = .returned (.bool (Qby v d))/\Own w no w' []):=by
 refine Qaj (n:=16) Tryz.func40 rfl Tryz.ntmps40 rfl ?_
 have hs:=Own.start w
 have ⟨⟨hd1,hd2⟩,hd3,hd4⟩:=hd
 refine Qah (Qab (Qaa (QaR (V:=.agg (vc v).toArray) (cs:=vc v) rfl rfl hs fun b1 w2 hs=>(Qaa (QaR (V:=.agg (dc d).toArray) (cs:=dc d) rfl rfl hs fun b3 w4 hs=>(Qaa (Qad (V:=.bool false) rfl (Qaf (Qah (QaH HM [some 5,some 6,some 7,some 8,some 9,some 10,some 11,some 12,some 13,some 14,some 15,some 4] [] [0,1,3,7,15,7,39,103,231,511,1023,2047] [pv (.agg (dc d).toArray),pv (.bool (Qb8 d)),pv (.bool (Qb8 d)),pg ((Qb8 d) == true) (Pq b3 (0+1)),pg ((Qb8 d) == true) (.int .u32 d.seq),pg ((Qb8 d) == true) (Pq b3 (0+0)),pg ((Qb8 d) == true) (.int .u8 d.rep),pg ((Qb8 d) == true) (.pointer (some ⟨b1,0+d.rep.toNat,none⟩)),pg ((Qb8 d) == true) (.int .u32 (vat v d.rep.toNat)),pg ((Qb8 d) == true) (.bool (decide (d.seq<=vat v d.rep.toNat))),pv (.bool ((Qb8 d)&&(decide (d.seq<=vat v d.rep.toNat)))),pv (.bool ((Qb8 d)&&(decide (d.seq<=vat v d.rep.toNat))))] (fun _ _=>_) [11] (by kernel_rfl) hs ⟨?_,?_,?_,?_,?_,?_,?_,?_,?_,?_,?_,?_,trivial⟩ ?_))))))))))
 ·exact oa [] fun D J w hs=>QaJ (cs:=dc d) QcL hs 1 rfl rfl rfl (Zz hs)
 ·exact oa [0] fun D J w hs=>Qat (vs:=[.agg (dc d).toArray]) (V:=.bool (Qb8 d)) QvF rfl rfl (QqD _ d) hs fun _ hs=>Zz hs
 ·exact oa [1] fun D J w hs=>Qac (V:=.bool (Qb8 d)) rfl (Zz hs)
 ·refine og [2] fun D J w hG hs=>?_
  have hb:=QaO (eq_of_beq hG)
  exact Qae QbM rfl (Zz hs)
 ·refine oy [2,3] [3] fun D J w hG hs=>?_
  have hb:=QaO (eq_of_beq hG)
  exact QaE (V:=.int .u32 d.seq) QaY hs 1 rfl rfl rfl (Zz hs)
 ·refine og [2] fun D J w hG hs=>?_
  have hb:=QaO (eq_of_beq hG)
  exact Qae QbE rfl (Zz hs)
 ·refine oy [2,5] [5] fun D J w hG hs=>?_
  have hb:=QaO (eq_of_beq hG)
  exact QaE (V:=.int .u8 d.rep) QcF hs 1 rfl rfl rfl (Zz hs)
 ·refine oy [2,6] [6] fun D J w hG hs=>?_
  have hb:=QaO (eq_of_beq hG)
  exact QbT QeZ QaY.1 rfl rfl (by omega) (by omega) (Zz hs)
 ·refine oy [2,7] [7] fun D J w hG hs=>?_
  have hb:=QaO (eq_of_beq hG)
  exact QaE (V:=.int .u32 (vat v d.rep.toNat)) QaY hs 0 rfl rfl (QfC (by omega) (by omega)) (Zz hs)
 ·refine oy [2,4,8] [4,8] fun D J w hG hs=>?_
  have hb:=QaO (eq_of_beq hG)
  exact Qc6 rfl rfl (Zz hs)
 ·exact oa [2,9] fun D J w hs=>Qa2 (h':=decide (d.seq<=vat v d.rep.toNat)) rfl rfl rfl (Zz hs)
 ·exact oa [10] fun D J w hs=>Qad (V:=.bool ((Qb8 d)&&(decide (d.seq<=vat v d.rep.toNat)))) rfl (Zz hs)
 rintro J1 w6 J2 hJ hs
 replace hJ:J2=upd (mix (sq 5 11++[4]) J1 _) 4 (.bool ((Qb8 d)&&(decide (d.seq<=vat v d.rep.toNat)))):=hJ
 subst hJ
 refine Qav ?_
 refine ⟨_,Qar (V:=.bool ((Qb8 d)&&(decide (d.seq<=vat v d.rep.toNat)))) Tryz.results40 rfl,(Zr hs ?_)⟩
 rfl
theorem Qho (w:World) (v:Vec) (d:Dot) (hd:QcU d):Calls Tryz.prog 71 #[.agg (vc v).toArray,.agg (dc d).toArray] w (fun e w'=>e = .returned (.bool (Qby v d))/\Own w no w' []):=by
 refine Qaj (n:=16) Tryz.func71 rfl Tryz.ntmps71 rfl ?_
 have hs:=Own.start w
 have ⟨⟨hd1,hd2⟩,hd3,hd4⟩:=hd
 refine Qah (Qab (Qaa (QaR (V:=.agg (vc v).toArray) (cs:=vc v) rfl rfl hs fun b1 w2 hs=>(Qaa (QaR (V:=.agg (dc d).toArray) (cs:=dc d) rfl rfl hs fun b3 w4 hs=>(Qaa (Qad (V:=.bool false) rfl (Qaf (Qah (QaH HM [some 5,some 6,some 7,some 8,some 9,some 10,some 11,some 12,some 13,some 14,some 15,some 4] [] [0,1,3,7,15,7,39,103,231,511,1023,2047] [pv (.agg (dc d).toArray),pv (.bool (Qb8 d)),pv (.bool (Qb8 d)),pg ((Qb8 d) == true) (Pq b3 (0+1)),pg ((Qb8 d) == true) (.int .u32 d.seq),pg ((Qb8 d) == true) (Pq b3 (0+0)),pg ((Qb8 d) == true) (.int .u8 d.rep),pg ((Qb8 d) == true) (.pointer (some ⟨b1,0+d.rep.toNat,none⟩)),pg ((Qb8 d) == true) (.int .u32 (vat v d.rep.toNat)),pg ((Qb8 d) == true) (.bool (decide (d.seq<=vat v d.rep.toNat))),pv (.bool ((Qb8 d)&&(decide (d.seq<=vat v d.rep.toNat)))),pv (.bool ((Qb8 d)&&(decide (d.seq<=vat v d.rep.toNat))))] (fun _ _=>_) [11] (by kernel_rfl) hs ⟨?_,?_,?_,?_,?_,?_,?_,?_,?_,?_,?_,?_,trivial⟩ ?_))))))))))
 ·exact oa [] fun D J w hs=>QaJ (cs:=dc d) QcL hs 1 rfl rfl rfl (Zz hs)
 ·exact oa [0] fun D J w hs=>Qat (vs:=[.agg (dc d).toArray]) (V:=.bool (Qb8 d)) QpU rfl rfl (Qnq _ d) hs fun _ hs=>Zz hs
 ·exact oa [1] fun D J w hs=>Qac (V:=.bool (Qb8 d)) rfl (Zz hs)
 ·refine og [2] fun D J w hG hs=>?_
  have hb:=QaO (eq_of_beq hG)
  exact Qae QbM rfl (Zz hs)
 ·refine oy [2,3] [3] fun D J w hG hs=>?_
  have hb:=QaO (eq_of_beq hG)
  exact QaE (V:=.int .u32 d.seq) QaY hs 1 rfl rfl rfl (Zz hs)
 ·refine og [2] fun D J w hG hs=>?_
  have hb:=QaO (eq_of_beq hG)
  exact Qae QbE rfl (Zz hs)
 ·refine oy [2,5] [5] fun D J w hG hs=>?_
  have hb:=QaO (eq_of_beq hG)
  exact QaE (V:=.int .u8 d.rep) QcF hs 1 rfl rfl rfl (Zz hs)
 ·refine oy [2,6] [6] fun D J w hG hs=>?_
  have hb:=QaO (eq_of_beq hG)
  exact QbT QeZ QaY.1 rfl rfl (by omega) (by omega) (Zz hs)
 ·refine oy [2,7] [7] fun D J w hG hs=>?_
  have hb:=QaO (eq_of_beq hG)
  exact QaE (V:=.int .u32 (vat v d.rep.toNat)) QaY hs 0 rfl rfl (QfC (by omega) (by omega)) (Zz hs)
 ·refine oy [2,4,8] [4,8] fun D J w hG hs=>?_
  have hb:=QaO (eq_of_beq hG)
  exact Qc6 rfl rfl (Zz hs)
 ·exact oa [2,9] fun D J w hs=>Qa2 (h':=decide (d.seq<=vat v d.rep.toNat)) rfl rfl rfl (Zz hs)
 ·exact oa [10] fun D J w hs=>Qad (V:=.bool ((Qb8 d)&&(decide (d.seq<=vat v d.rep.toNat)))) rfl (Zz hs)
 rintro J1 w6 J2 hJ hs
 replace hJ:J2=upd (mix (sq 5 11++[4]) J1 _) 4 (.bool ((Qb8 d)&&(decide (d.seq<=vat v d.rep.toNat)))):=hJ
 subst hJ
 refine Qav ?_
 refine ⟨_,Qar (V:=.bool ((Qb8 d)&&(decide (d.seq<=vat v d.rep.toNat)))) Tryz.results71 rfl,(Zr hs ?_)⟩
 rfl
theorem Qf8 (w:World) (v:Vec) (n:Int) (hv:QbW v):Calls Tryz.prog 60 #[.agg (vc v).toArray,.int .i64 n] w (fun e w'=>e = .returned (.bool (QaL v n))/\Own w no w' []):=by
 refine Qaj (n:=30) Tryz.func60 rfl Tryz.ntmps60 rfl ?_
 have hs:=Own.start w
 refine Qah (Qab (Qaa (QaR (V:=.agg (vc v).toArray) (cs:=vc v) rfl rfl hs fun b1 w2 hs=>(Qaa (Qad (V:=.bool false) rfl (Qaf (Qah (Qah (Qbh [some 7,some 8,some 9,some 10,some 11,some 12] [] [0,1,3,7,15,31] [pv (I6 n),pv (.bool (decide (n<1))),pv (.bool (decide (n<1))),pg ((decide (n<1)) == false) (I6 n),pg ((decide (n<1)) == false) (.bool (decide (16<n))),pv (.bool ((decide (n<1))||(decide (16<n))))] (fun _ _=>_) [5] (by kernel_rfl) hs ⟨?_,?_,?_,?_,?_,?_,trivial⟩ ?_)))))))))
 ·exact oa [] fun D J w hs=>Qac (V:=.int .i64 n) rfl (Zz hs)
 ·exact oa [0] fun D J w hs=>QaQ rfl rfl (Zz hs)
 ·exact oa [1] fun D J w hs=>Qac (V:=.bool (decide (n<1))) rfl (Zz hs)
 ·exact og [2] fun D J w hG hs=>Qac (V:=.int .i64 n) rfl (Zz hs)
 ·exact oy [2,3] [3] fun D J w hG hs=>QbP rfl rfl (Zz hs)
 ·exact oa [2,4] fun D J w hs=>QbZ (h':=decide (16<n)) rfl rfl rfl (Zz hs)
 rintro J1 w3 J2 hJ hs
 replace hJ:J2=upd (mix (sq 7 6) J1 _) 12 (.bool ((decide (n<1))||(decide (16<n)))):=hJ
 subst hJ
 refine Qao (t:=(decide (n<1))||(decide (16<n))) rfl (fun c4=>?_) (fun c4=>?_)
 ·
  refine Qah (Qab (Qaa (Qad (V:=.bool false) rfl (Qaf (Qav ?_)))))
  refine ⟨_,Qar (V:=.bool false) Tryz.results60 rfl,(Zr hs ?_)⟩
  exact congrArg Value.bool (Qfc c4).symm
 have c4r:=Qfe c4
 replace c4:=Qfk c4
 replace c4:=QQ2 c4
 replace c4r:=QQ2 c4r
 refine Qaq (Qah (Qah (Qab (Qaa (QaJ (cs:=vc v) QbB hs 0 rfl rfl rfl (Qaa (Qac (V:=I6 0) rfl (Qaf (Qan (QaA (fun J μ J' w'=>∃ (Jo:Env) (k:Nat),J'=upd (mix ([4,5,6]++sq 14 16) Jo J) 14 (I6 (k:Int))/\(k<=16)/\(∀ j:Nat,j<k->QgR v n j=true)/\μ=16-k/\Own w no w' [blk b1 (vc v) 24]) ?_ ?_))))))))))
 ·exact ⟨_,_,0,Qai (Qap (ds:=([4,5,6]++sq 14 16)) (Agr.refl _ _)) rfl,(by omega),(fun j hj=>absurd hj (Nat.not_lt_zero j)),rfl,hs⟩
 rintro μ J' w5 ⟨Jo,k,rfl,hk,hok,rfl,hs⟩
 have hv1:=Qhh hv ((k:Int).toNat)
 have hkk:((k:Int)).toNat=k:=rfl
 refine Qah (Qab (Qaa (QaQ rfl rfl (Qaf (Qah (Qao (t:=decide ((k:Int)<16)) rfl (fun c6=>?_) (fun c6=>?_)))))))
 ·
  replace c6:=QQ1 c6
  refine Qaq (Qah (Qan (Qah (Qab (Qaa (Qac (V:=I6 (k:Int)) rfl (Qaa (QiW (V:=.int .u32 (vat v k)) QeZ QaY rfl rfl (by omega) (by omega) (by rw [List.getElem?_toArray];exact QhZ _ _ (by omega)) ?_))))))))
  refine Qaa (Qad (V:=I6 (k:Int)) rfl (Qaa (Qad (V:=.int .u32 (vat v k)) rfl (Qaf (Qah (Qbh [some 18,some 19,some 20,some 21,some 22,some 23,some 24,some 25,some 26,some 27,some 28] [] [0,1,3,7,7,31,63,127,255,511,1023] [pv (.int .u32 (vat v k)),pv (.bool (decide (1048576<vat v k))),pv (.bool (decide (1048576<vat v k))),pg ((decide (1048576<vat v k)) == false) (I6 (k:Int)),pg ((decide (1048576<vat v k)) == false) (I6 n),pg ((decide (1048576<vat v k)) == false) (.bool (decide (n<=(k:Int)))),pg ((decide (1048576<vat v k)) == false) (.bool (decide (n<=(k:Int)))),pg (((decide (1048576<vat v k)) == false)&&((decide (n<=(k:Int))) == true)) (.int .u32 (vat v k)),pg (((decide (1048576<vat v k)) == false)&&((decide (n<=(k:Int))) == true)) (.bool (decide (0<vat v k))),pg ((decide (1048576<vat v k)) == false) (.bool ((decide (n<=(k:Int)))&&(decide (0<vat v k)))),pv (.bool ((decide (1048576<vat v k))||((decide (n<=(k:Int)))&&(decide (0<vat v k)))))] (fun _ _=>_) [10] (by kernel_rfl) hs ⟨?_,?_,?_,?_,?_,?_,?_,?_,?_,?_,?_,trivial⟩ ?_))))))
  ·exact oa [] fun D J w hs=>Qac (V:=.int .u32 (vat v k)) rfl (Zz hs)
  ·exact oa [0] fun D J w hs=>QbP rfl rfl (Zz hs)
  ·exact oa [1] fun D J w hs=>Qac (V:=.bool (decide (1048576<vat v k))) rfl (Zz hs)
  ·exact og [2] fun D J w hG hs=>Qac (V:=.int .i64 (k:Int)) rfl (Zz hs)
  ·exact og [2] fun D J w hG hs=>Qac (V:=.int .i64 n) rfl (Zz hs)
  ·exact oy [2,3,4] [3,4] fun D J w hG hs=>Qct rfl rfl (Zz hs)
  ·exact oy [2,5] [5] fun D J w hG hs=>Qac (V:=.bool (decide (n<=(k:Int)))) rfl (Zz hs)
  ·exact og [6] fun D J w hG hs=>Qac (V:=.int .u32 (vat v k)) rfl (Zz hs)
  ·exact oy [6,7] [7] fun D J w hG hs=>QbP rfl rfl (Zz hs)
  ·exact oy [2,6,8] [6] fun D J w hG hs=>Qgk (h':=decide (0<vat v k)) (G:=((decide (1048576<vat v k)) == false)) hG rfl rfl rfl (Zz hs)
  ·exact oa [2,9] fun D J w hs=>QbZ (h':=(decide (n<=(k:Int)))&&(decide (0<vat v k))) rfl rfl rfl (Zz hs)
  rintro J1 w7 J2 hJ hs
  replace hJ:J2=upd (mix (sq 18 11) J1 _) 28 (.bool ((decide (1048576<vat v k))||((decide (n<=(k:Int)))&&(decide (0<vat v k))))):=hJ
  subst hJ
  refine Qao (t:=(decide (1048576<vat v k))||((decide (n<=(k:Int)))&&(decide (0<vat v k)))) rfl (fun c8=>?_) (fun c8=>?_)
  ·
   refine Qah (Qab (Qaa (Qad (V:=.bool false) rfl (Qaf (Qav ?_)))))
   refine ⟨_,Qar (V:=.bool false) Tryz.results60 rfl,(Zr hs ?_)⟩
   exact congrArg Value.bool (Qig (k:=k) (by omega) (QlW c8)).symm
  have c8r:=Qfe c8
  replace c8:=Qfk c8
  replace c8:=QQ2 c8
  refine Qaq (Qab (Qaa (QaD (a:=(k:Int)) (b:=1) (c:=(k:Int)+1) rfl rfl (QbH (by omega) (by omega)) (Qaa (Qac (V:=I6 ((k:Int)+1)) rfl (Qaf ?_))))))
  refine ⟨_,?_,_,k+1,Qai (Qap (ds:=([4,5,6]++sq 14 16)) (by repeat (first|exact Agr.refl _ _|refine Agr.upd ?_ rfl|refine Agr.mix ?_ rfl))) rfl,(by omega),(Qh3 hok (Qkn c8 c8r)),rfl,hs.take 1⟩
  omega
 replace c6:=QQ2 c6
 refine QaG (Qah (Qab (Qaa (Qad (V:=.bool true) rfl (Qaf (Qav ?_))))))
 refine ⟨_,Qar (V:=.bool true) Tryz.results60 rfl,(Zr hs ?_)⟩
 exact congrArg Value.bool ((Qg2 fun j hj=>hok j (by omega)).trans (by simp;omega)).symm
theorem Qf5 (w:World) (v:Vec) (n:Int) (hv:QbW v):Calls Tryz.prog 34 #[.agg (vc v).toArray,.int .i64 n] w (fun e w'=>e = .returned (.bool (QaL v n))/\Own w no w' []):=by
 refine Qaj (n:=31) Tryz.func34 rfl Tryz.ntmps34 rfl ?_
 have hs:=Own.start w
 refine Qah (Qab (Qaa (QaR (V:=.agg (vc v).toArray) (cs:=vc v) rfl rfl hs fun b1 w2 hs=>(Qaa (Qad (V:=.bool false) rfl (Qaf (Qah (Qah (Qab (Qaa (Qad (V:=I6 0) rfl (Qaf (Qan (QaA (fun J μ J' w'=>∃ (Jo:Env) (k:Nat),J'=upd (mix (sq 4 21) Jo J) 5 (I6 (k:Int))/\(k<=16)/\(∀ j:Nat,j<k->QgR v n j=true)/\μ=16-k/\Own w no w' [blk b1 (vc v) 24]) ?_ ?_))))))))))))))
 ·exact ⟨_,_,0,Qai (Qap (ds:=(sq 4 21)) (Agr.refl _ _)) rfl,(by omega),(fun j hj=>absurd hj (Nat.not_lt_zero j)),rfl,hs⟩
 rintro μ J' w3 ⟨Jo,k,rfl,hk,hok,rfl,hs⟩
 have hv1:=Qhh hv ((k:Int).toNat)
 have hkk:((k:Int)).toNat=k:=rfl
 refine Qah (Qah (Qab (Qaa (Qac (V:=I6 (k:Int)) rfl (Qaa (QaQ rfl rfl (Qaf (Qao (t:=decide ((k:Int)<16)) rfl (fun c4=>?_) (fun c4=>?_)))))))))
 ·
  replace c4:=QQ1 c4
  refine Qaq (Qah (Qan (Qah (Qbh [some 10,some 11,some 12,some 13,some 14,some 15,some 16,some 17,some 18,some 19,some 20,some 21,some 22,some 23,some 24] [] [0,1,3,7,15,31,31,127,255,511,1023,2047,4095,8191,16383] [pv (I6 (k:Int)),pv (.pointer (some ⟨b1,0+(k:Int).toNat,none⟩)),pv (.int .u32 (vat v k)),pv (.bool (decide (1048576<vat v k))),pv (.bool (decide (1048576<vat v k))),pg ((decide (1048576<vat v k)) == false) (I6 (k:Int)),pg ((decide (1048576<vat v k)) == false) (I6 n),pg ((decide (1048576<vat v k)) == false) (.bool (decide (n<=(k:Int)))),pg ((decide (1048576<vat v k)) == false) (.bool (decide (n<=(k:Int)))),pg (((decide (1048576<vat v k)) == false)&&((decide (n<=(k:Int))) == true)) (I6 (k:Int)),pg (((decide (1048576<vat v k)) == false)&&((decide (n<=(k:Int))) == true)) (.pointer (some ⟨b1,0+(k:Int).toNat,none⟩)),pg (((decide (1048576<vat v k)) == false)&&((decide (n<=(k:Int))) == true)) (.int .u32 (vat v k)),pg (((decide (1048576<vat v k)) == false)&&((decide (n<=(k:Int))) == true)) (.bool (!decide (vat v k=0))),pg ((decide (1048576<vat v k)) == false) (.bool ((decide (n<=(k:Int)))&&(!decide (vat v k=0)))),pv (.bool ((decide (1048576<vat v k))||((decide (n<=(k:Int)))&&(!decide (vat v k=0)))))] (fun _ _=>_) [14] (by kernel_rfl) hs ⟨?_,?_,?_,?_,?_,?_,?_,?_,?_,?_,?_,?_,?_,?_,?_,trivial⟩ ?_))))
  ·exact oa [] fun D J w hs=>Qac (V:=.int .i64 (k:Int)) rfl (Zz hs)
  ·exact oa [0] fun D J w hs=>QbT QeZ QaY.1 rfl rfl (by omega) (by omega) (Zz hs)
  ·exact oa [1] fun D J w hs=>QaE (V:=.int .u32 (vat v k)) QaY hs 0 rfl rfl (QfC (by omega) (by omega)) (Zz hs)
  ·exact oa [2] fun D J w hs=>QbP rfl rfl (Zz hs)
  ·exact oa [3] fun D J w hs=>Qac (V:=.bool (decide (1048576<vat v k))) rfl (Zz hs)
  ·exact og [4] fun D J w hG hs=>Qac (V:=.int .i64 (k:Int)) rfl (Zz hs)
  ·exact og [4] fun D J w hG hs=>Qac (V:=.int .i64 n) rfl (Zz hs)
  ·exact oy [4,5,6] [5,6] fun D J w hG hs=>Qct rfl rfl (Zz hs)
  ·exact oy [4,7] [7] fun D J w hG hs=>Qac (V:=.bool (decide (n<=(k:Int)))) rfl (Zz hs)
  ·exact og [8] fun D J w hG hs=>Qac (V:=.int .i64 (k:Int)) rfl (Zz hs)
  ·refine oy [8,9] [9] fun D J w hG hs=>?_
   have hgd0:=QQ2 (eq_of_beq (QbA (hG)))
   have hgd1:=QQ1 (eq_of_beq (QbC (hG)))
   exact QbT QeZ QaY.1 rfl rfl (by omega) (by omega) (Zz hs)
  ·refine oy [8,10] [10] fun D J w hG hs=>?_
   have hgd0:=QQ2 (eq_of_beq (QbA (hG)))
   have hgd1:=QQ1 (eq_of_beq (QbC (hG)))
   exact QaE (V:=.int .u32 (vat v k)) QaY hs 0 rfl rfl (QfC (by omega) (by omega)) (Zz hs)
  ·exact oy [8,11] [11] fun D J w hG hs=>Qch rfl rfl (Zz hs)
  ·exact oy [4,8,12] [8] fun D J w hG hs=>Qgk (h':=!decide (vat v k=0)) (G:=((decide (1048576<vat v k)) == false)) hG rfl rfl rfl (Zz hs)
  ·exact oa [4,13] fun D J w hs=>QbZ (h':=(decide (n<=(k:Int)))&&(!decide (vat v k=0))) rfl rfl rfl (Zz hs)
  rintro J1 w5 J2 hJ hs
  replace hJ:J2=upd (mix (sq 10 15) J1 _) 24 (.bool ((decide (1048576<vat v k))||((decide (n<=(k:Int)))&&(!decide (vat v k=0))))):=hJ
  subst hJ
  refine Qao (t:=(decide (1048576<vat v k))||((decide (n<=(k:Int)))&&(!decide (vat v k=0)))) rfl (fun c6=>?_) (fun c6=>?_)
  ·
   refine Qah (Qab (Qaa (Qad (V:=.bool false) rfl (Qaf (Qav ?_)))))
   refine ⟨_,Qar (V:=.bool false) Tryz.results34 rfl,(Zr hs ?_)⟩
   exact congrArg Value.bool (Qig (k:=k) (by omega) (Qo4 hv c6)).symm
  have c6r:=Qfe c6
  replace c6:=Qfk c6
  replace c6:=QQ2 c6
  refine Qaq (Qab (Qaa (Qac (V:=I6 (k:Int)) rfl (Qaa (QaD (a:=(k:Int)) (b:=1) (c:=(k:Int)+1) rfl rfl (QbH (by omega) (by omega)) (Qaa (Qad (V:=I6 ((k:Int)+1)) rfl (Qaf ?_))))))))
  refine ⟨_,?_,_,k+1,Qai (Qap (ds:=(sq 4 21)) (by repeat (first|exact Agr.refl _ _|refine Agr.upd ?_ rfl|refine Agr.mix ?_ rfl))) rfl,(by omega),(Qh3 hok (Ql7 hv c6 c6r)),rfl,hs.take 1⟩
  omega
 replace c4:=QQ2 c4
 refine QaG (Qah (Qbh [some 25,some 26,some 27,some 28,some 29,some 30,some 4] [] [0,1,3,7,15,31,63] [pv (I6 n),pv (.bool (decide (1<=n))),pv (.bool (decide (1<=n))),pg ((decide (1<=n)) == true) (I6 n),pg ((decide (1<=n)) == true) (.bool (decide (n<=16))),pv (.bool ((decide (1<=n))&&(decide (n<=16)))),pv (.bool ((decide (1<=n))&&(decide (n<=16))))] (fun _ _=>_) [6] (by kernel_rfl) hs ⟨?_,?_,?_,?_,?_,?_,?_,trivial⟩ ?_))
 ·exact oa [] fun D J w hs=>Qac (V:=.int .i64 n) rfl (Zz hs)
 ·exact oa [0] fun D J w hs=>Qct rfl rfl (Zz hs)
 ·exact oa [1] fun D J w hs=>Qac (V:=.bool (decide (1<=n))) rfl (Zz hs)
 ·exact og [2] fun D J w hG hs=>Qac (V:=.int .i64 n) rfl (Zz hs)
 ·exact oy [2,3] [3] fun D J w hG hs=>Qc6 rfl rfl (Zz hs)
 ·exact oa [2,4] fun D J w hs=>Qa2 (h':=decide (n<=16)) rfl rfl rfl (Zz hs)
 ·exact oa [5] fun D J w hs=>Qad (V:=.bool ((decide (1<=n))&&(decide (n<=16)))) rfl (Zz hs)
 rintro J1 w7 J2 hJ hs
 replace hJ:J2=upd (mix (sq 25 6++[4]) J1 _) 4 (.bool ((decide (1<=n))&&(decide (n<=16)))):=hJ
 subst hJ
 refine Qav ?_
 refine ⟨_,Qar (V:=.bool ((decide (1<=n))&&(decide (n<=16)))) Tryz.results34 rfl,(Zr hs ?_)⟩
 exact congrArg Value.bool (Qg2 fun j hj=>hok j (by omega)).symm
theorem Qit (w:World) (a b:Vec):Calls Tryz.prog 29 #[.agg (vc a).toArray,.agg (vc b).toArray] w (fun e w'=>e = .returned (.bool (vle a b))/\Own w no w' []):=by
 refine Qaj (n:=17) Tryz.func29 rfl Tryz.ntmps29 rfl ?_
 have hs:=Own.start w
 refine Qah (Qab (Qaa (QaR (V:=.agg (vc a).toArray) (cs:=vc a) rfl rfl hs fun b1 w2 hs=>(Qaa (QaR (V:=.agg (vc b).toArray) (cs:=vc b) rfl rfl hs fun b3 w4 hs=>(Qaa (Qad (V:=.bool false) rfl (Qaf (Qah (Qah (Qab (Qaa (Qad (V:=I6 0) rfl (Qaf (Qan (QaA (fun J μ J' w'=>∃ (Jo:Env) (k:Nat),J'=upd (mix (sq 4 13) Jo J) 5 (I6 (k:Int))/\(k<=16)/\(∀ j:Nat,j<k->vat a j<=vat b j)/\μ=16-k/\Own w no w' [blk b1 (vc a) 24,blk b3 (vc b) 24]) ?_ ?_))))))))))))))))
 ·exact ⟨_,_,0,Qai (Qap (ds:=(sq 4 13)) (Agr.refl _ _)) rfl,(by omega),(fun j hj=>absurd hj (Nat.not_lt_zero j)),rfl,hs⟩
 rintro μ J' w5 ⟨Jo,k,rfl,hk,hle,rfl,hs⟩
 refine Qah (Qah (Qab (Qaa (Qac (V:=I6 (k:Int)) rfl (Qaa (QaQ rfl rfl (Qaf (Qao (t:=decide ((k:Int)<16)) rfl (fun c6=>?_) (fun c6=>?_)))))))))
 ·
  replace c6:=QQ1 c6
  refine Qaq (Qah (Qan (Qah (QaH HM [some 10,some 11,some 12,some 13,some 14,some 15,some 16] [] [0,1,3,0,8,24,63] [pv (I6 (k:Int)),pv (.pointer (some ⟨b1,0+(k:Int).toNat,none⟩)),pv (.int .u32 (vat a k)),pv (I6 (k:Int)),pv (.pointer (some ⟨b3,0+(k:Int).toNat,none⟩)),pv (.int .u32 (vat b k)),pv (.bool (decide (vat b k<vat a k)))] (fun _ _=>_) [6] (by kernel_rfl) hs ⟨?_,?_,?_,?_,?_,?_,?_,trivial⟩ ?_))))
  ·exact oa [] fun D J w hs=>Qac (V:=.int .i64 (k:Int)) rfl (Zz hs)
  ·exact oa [0] fun D J w hs=>QbT QeZ QaY.1 rfl rfl (by omega) (by omega) (Zz hs)
  ·exact oa [1] fun D J w hs=>QaE (V:=.int .u32 (vat a k)) QaY hs 0 rfl rfl (QfC (by omega) (by omega)) (Zz hs)
  ·exact oa [] fun D J w hs=>Qac (V:=.int .i64 (k:Int)) rfl (Zz hs)
  ·exact oa [3] fun D J w hs=>QbT QeZ QaY.1 rfl rfl (by omega) (by omega) (Zz hs)
  ·exact oa [4] fun D J w hs=>QaE (V:=.int .u32 (vat b k)) QaY hs 1 rfl rfl (QfC (by omega) (by omega)) (Zz hs)
  ·exact oa [2,5] fun D J w hs=>QbP rfl rfl (Zz hs)
  rintro J1 w7 J2 hJ hs
  replace hJ:J2=upd (mix (sq 10 7) J1 _) 16 (.bool (decide (vat b k<vat a k))):=hJ
  subst hJ
  refine Qao (t:=decide (vat b k<vat a k)) rfl (fun c8=>?_) (fun c8=>?_)
  ·
   replace c8:=QQ1 c8
   refine Qah (Qab (Qaa (Qad (V:=.bool false) rfl (Qaf (Qav ?_)))))
   refine ⟨_,Qar (V:=.bool false) Tryz.results29 rfl,(Zr hs ?_)⟩
   exact congrArg Value.bool (Qss (k:=k) (by omega) c8).symm
  replace c8:=QQ2 c8
  refine Qaq (Qab (Qaa (Qac (V:=I6 (k:Int)) rfl (Qaa (QaD (a:=(k:Int)) (b:=1) (c:=(k:Int)+1) rfl rfl (QbH (by omega) (by omega)) (Qaa (Qad (V:=I6 ((k:Int)+1)) rfl (Qaf ?_))))))))
  refine ⟨_,?_,_,k+1,Qai (Qap (ds:=(sq 4 13)) (by repeat (first|exact Agr.refl _ _|refine Agr.upd ?_ rfl|refine Agr.mix ?_ rfl))) rfl,(by omega),(Qpf hle c8),rfl,hs.take 2⟩
  omega
 replace c6:=QQ2 c6
 refine QaG (Qah (Qab (Qaa (Qad (V:=.bool true) rfl (Qaf (Qav ?_))))))
 refine ⟨_,Qar (V:=.bool true) Tryz.results29 rfl,(Zr hs ?_)⟩
 exact congrArg Value.bool (Qjn fun j hj=>hle j (by omega)).symm
theorem Qok (w:World) (a b:Vec):Calls Tryz.prog 104 #[.agg (vc a).toArray,.agg (vc b).toArray] w (fun e w'=>e = .returned (.agg (vc (vjoin a b)).toArray)/\Own w no w' []):=by
 refine Qaj (n:=21) Tryz.func104 rfl Tryz.ntmps104 rfl ?_
 have hs:=Own.start w
 refine Qah (Qab (Qaa (QaR (V:=.agg (vc a).toArray) (cs:=vc a) rfl rfl hs fun b1 w2 hs=>(Qaa (QaR (V:=.agg (vc b).toArray) (cs:=vc b) rfl rfl hs fun b3 w4 hs=>(Qaa (QaM (cs:=vc vzero) QvX rfl hs fun b5 w6 hs=>(Qaf (Qah (Qah (Qab (Qaa (QaJ (cs:=vc b) QbB hs 1 rfl rfl rfl (Qaa (Qac (V:=I6 0) rfl (Qaf (Qan (QaA (fun J μ J' w'=>∃ (Jo:Env) (k:Nat) (u:Vec),J'=upd (mix ([5,6]++sq 8 12) Jo J) 8 (I6 (k:Int))/\(k<=16)/\(u=QfF a b k)/\μ=16-k/\Own w no w' [blk b1 (vc u) 24,blk b3 (vc b) 24,blk b5 (vc vzero) 24]) ?_ ?_))))))))))))))))))
 ·exact ⟨_,_,0,a,Qai (Qap (ds:=([5,6]++sq 8 12)) (Agr.refl _ _)) rfl,(by omega),((Qrs a b).symm),rfl,hs⟩
 rintro μ J' w7 ⟨Jo,k,u,rfl,hk,hu,rfl,hs⟩
 refine Qah (Qab (Qaa (QaQ rfl rfl (Qaf (Qah (Qao (t:=decide ((k:Int)<16)) rfl (fun c8=>?_) (fun c8=>?_)))))))
 ·
  replace c8:=QQ1 c8
  refine Qaq (Qah (Qan (Qah (Qab (Qaa (Qac (V:=I6 (k:Int)) rfl (Qaa (QiW (V:=.int .u32 (vat b k)) QeZ QaY rfl rfl (by omega) (by omega) (by rw [List.getElem?_toArray];exact QhZ _ _ (by omega)) ?_))))))))
  refine Qaa (Qad (V:=I6 (k:Int)) rfl (Qaa (Qad (V:=.int .u32 (vat b k)) rfl (Qaf (Qab (Qaa (Qac (V:=I6 (k:Int)) rfl (Qaa (Qac (V:=I6 (k:Int)) rfl (Qaa (QbT QeZ QaY.1 rfl rfl (by omega) (by omega) (Qaa (QaE (V:=.int .u32 (vat u k)) QaY hs 0 rfl rfl (QfC (by omega) (by omega)) (Qaa (Qac (V:=.int .u32 (vat b k)) rfl (Qaa (Qr4 rfl rfl (Qaa (QbT QeZ QaY.1 rfl rfl (by omega) (by omega) (Qaa (Qc2 (V:=.int .u32 (max (vat u k) (vat b k))) (cs':=vc (vset u k (max (vat u k) (vat b k)))) QaY hs 0 rfl rfl rfl rfl (Qu4 (by omega)) (QrJ (by omega) (by omega)) fun w9 hs=>?_)))))))))))))))))))))
  replace hs:Own w no w9 [blk b1 (vc (vset u k (max (vat u k) (vat b k)))) 24,blk b3 (vc b) 24,blk b5 (vc vzero) 24]:=hs
  refine Qaf (Qab (Qaa (QaD (a:=(k:Int)) (b:=1) (c:=(k:Int)+1) rfl rfl (QbH (by omega) (by omega)) (Qaa (Qac (V:=I6 ((k:Int)+1)) rfl (Qaf ?_))))))
  refine ⟨_,?_,_,k+1,vset u k (max (vat u k) (vat b k)),Qai (Qap (ds:=([5,6]++sq 8 12)) (by repeat (first|exact Agr.refl _ _|refine Agr.upd ?_ rfl|refine Agr.mix ?_ rfl))) rfl,(by omega),(by subst hu;exact Qk3 (by omega)),rfl,hs.take 3⟩
  omega
 replace c8:=QQ2 c8
 refine QaG (Qah (Qab (Qaa (QaJ (cs:=vc u) QbB hs 0 rfl rfl rfl (Qaa (QcH (V:=.agg (vc u).toArray) (vs:=vc u) (cs':=vc u) QbB.1 hs 2 rfl rfl rfl rfl rfl (QQ8 rfl) (Qcv _) (QaC rfl) fun w10 hs=>?_))))))
 replace hs:Own w no w10 [blk b1 (vc u) 24,blk b3 (vc b) 24,blk b5 (vc u) 24]:=hs
 refine Qaf (Qav ?_)
 refine ⟨_,QcA (cs:=vc u) Tryz.results104 QbB hs 2 rfl rfl rfl,(Zr hs ?_)⟩
 rw [hu,show k=16 by omega,QoD]
theorem Qgb (w:World) (a b:Vec):Calls Tryz.prog 61 #[.agg (vc a).toArray,.agg (vc b).toArray] w (fun e w'=>e = .returned (.bool (vle a b))/\Own w no w' []):=by
 refine Qaj (n:=10) Tryz.func61 rfl Tryz.ntmps61 rfl ?_
 have hs:=Own.start w
 refine Qah (Qab (Qaa (QaR (V:=.agg (vc a).toArray) (cs:=vc a) rfl rfl hs fun b1 w2 hs=>(Qaa (QaR (V:=.agg (vc b).toArray) (cs:=vc b) rfl rfl hs fun b3 w4 hs=>(Qaa (Qad (V:=.bool false) rfl (Qaf (Qah (QaH HM [some 5,some 6,some 7,some 8,some 9,some 4] [] [0,0,3,0,15,31] [pv (.agg (vc a).toArray),pv (.agg (vc b).toArray),pv (.agg (vc (vjoin a b)).toArray),pv (.agg (vc b).toArray),pv (.bool (decide (vjoin a b=b))),pv (.bool (decide (vjoin a b=b)))] (fun _ _=>_) [5] (by kernel_rfl) hs ⟨?_,?_,?_,?_,?_,?_,trivial⟩ ?_))))))))))
 ·exact oa [] fun D J w hs=>QaJ (cs:=vc a) QbB hs 0 rfl rfl rfl (Zz hs)
 ·exact oa [] fun D J w hs=>QaJ (cs:=vc b) QbB hs 1 rfl rfl rfl (Zz hs)
 ·exact oa [0,1] fun D J w hs=>Qat (vs:=[.agg (vc a).toArray,.agg (vc b).toArray]) (V:=.agg (vc (vjoin a b)).toArray) Qsn rfl rfl (Qok _ a b) hs fun _ hs=>Zz hs
 ·exact oa [] fun D J w hs=>QaJ (cs:=vc b) QbB hs 1 rfl rfl rfl (Zz hs)
 ·exact oa [2,3] fun D J w hs=>Qpd (xs:=vc (vjoin a b)) (ys:=vc b) Tryz.eqGuardType24 (Qvm (vjoin a b) b) rfl rfl rfl (Zz hs)
 ·exact oa [4] fun D J w hs=>Qad (V:=.bool (decide (vjoin a b=b))) rfl (Zz hs)
 rintro J1 w6 J2 hJ hs
 replace hJ:J2=upd (mix [5,6,7,8,9,4] J1 _) 4 (.bool (decide (vjoin a b=b))):=hJ
 subst hJ
 refine Qav ?_
 refine ⟨_,Qar (V:=.bool (decide (vjoin a b=b))) Tryz.results61 rfl,(Zr hs ?_)⟩
 exact congrArg Value.bool (Qr7 a b)
theorem QqN (w:World) (v:Vec) (hv:QbW v):Calls Tryz.prog 87 #[.agg (vc v).toArray] w (fun e w'=>e = .returned (.int .u64 (vsum v))/\Own w no w' []):=by
 refine Qaj (n:=16) Tryz.func87 rfl Tryz.ntmps87 rfl ?_
 have hs:=Own.start w
 refine Qah (Qab (Qaa (QaR (V:=.agg (vc v).toArray) (cs:=vc v) rfl rfl hs fun b1 w2 hs=>(Qaa (Qad (V:=.int .u64 0) rfl (Qaf (Qah (Qab (Qaa (Qad (V:=.int .u64 0) rfl (Qaf (Qah (Qah (Qab (Qaa (QaJ (cs:=vc v) QbB hs 0 rfl rfl rfl (Qaa (Qac (V:=I6 0) rfl (Qaf (Qan (QaA (fun J μ J' w'=>∃ (Jo:Env) (k:Nat) (n:Int),J'=upd (upd (mix ([3,5]++sq 7 8) Jo J) 7 (I6 (k:Int))) 3 (.int .u64 n)/\(k<=16)/\(n=Qfn v k)/\(0<=n/\n<=(k:Int)*4294967296)/\μ=16-k/\Own w no w' [blk b1 (vc v) 24]) ?_ ?_)))))))))))))))))))))
 ·exact ⟨_,_,0,0,Qai (Qai (Qap (ds:=([3,5]++sq 7 8)) (Agr.refl _ _)) rfl) rfl,(by omega),rfl,(⟨by omega,by omega⟩),rfl,hs⟩
 rintro μ J' w3 ⟨Jo,k,n,rfl,hk,hn,hnb,rfl,hs⟩
 refine Qah (Qab (Qaa (QaQ rfl rfl (Qaf (Qah (Qao (t:=decide ((k:Int)<16)) rfl (fun c4=>?_) (fun c4=>?_)))))))
 ·
  replace c4:=QQ1 c4
  refine Qaq (Qah (Qan (Qah ?_)))
  have hv1:=Qhh hv k
  refine Qab (Qaa (QiW (V:=.int .u32 (vat v k)) QeZ QaY rfl rfl (by omega) (by omega) (by rw [List.getElem?_toArray];exact QhZ _ _ (by omega)) ?_))
  refine Qaa (Qad (V:=.int .u32 (vat v k)) rfl (Qaf (Qab (Qaa (Qac (V:=.int .u64 n) rfl (Qaa (Qac (V:=.int .u32 (vat v k)) rfl (Qaa (Qb5 QkC QpA rfl (Qdd (by omega) (by omega)) (Qaa (QaD (a:=n) (b:=vat v k) (c:=n+(vat v k)) rfl rfl (Qdd (by omega) (by omega)) (Qaa (Qad (V:=.int .u64 (n+(vat v k))) rfl (Qaf (Qab (Qaa (QaD (a:=(k:Int)) (b:=1) (c:=(k:Int)+1) rfl rfl (QbH (by omega) (by omega)) (Qaa (Qac (V:=I6 ((k:Int)+1)) rfl (Qaf ?_))))))))))))))))))))
  refine ⟨_,?_,_,k+1,n+(vat v k),Qai (Qai (Qap (ds:=([3,5]++sq 7 8)) (by repeat (first|exact Agr.refl _ _|refine Agr.upd ?_ rfl|refine Agr.mix ?_ rfl))) rfl) rfl,(by omega),(Qg6 hn),(⟨by omega,by omega⟩),rfl,hs.take 1⟩
  omega
 replace c4:=QQ2 c4
 refine QaG (Qah (Qab (Qaa (Qac (V:=.int .u64 n) rfl (Qaa (Qad (V:=.int .u64 n) rfl (Qaf (Qav ?_))))))))
 refine ⟨_,Qar (V:=.int .u64 n) Tryz.results87 rfl,(Zr hs ?_)⟩
 rw [hn,show k=16 by omega,Qno]
theorem Qrr (w:World) (v:Vec) (hv:QbW v):Calls Tryz.prog 99 #[.agg (vc v).toArray] w (fun e w'=>e = .returned (.int .u64 (vsum v))/\Own w no w' []):=by
 refine Qaj (n:=16) Tryz.func99 rfl Tryz.ntmps99 rfl ?_
 have hs:=Own.start w
 refine Qah (Qab (Qaa (QaR (V:=.agg (vc v).toArray) (cs:=vc v) rfl rfl hs fun b1 w2 hs=>(Qaa (Qad (V:=.int .u64 0) rfl (Qaf (Qah (Qab (Qaa (Qad (V:=.int .u64 0) rfl (Qaf (Qah (Qah (Qab (Qaa (Qad (V:=I6 0) rfl (Qaf (Qan (QaA (fun J μ J' w'=>∃ (Jo:Env) (k:Nat) (n:Int),J'=upd (upd (mix (sq 3 12) Jo J) 4 (I6 (k:Int))) 3 (.int .u64 n)/\(k<=16)/\(n=Qfn v k)/\(0<=n/\n<=(k:Int)*4294967296)/\μ=16-k/\Own w no w' [blk b1 (vc v) 24]) ?_ ?_)))))))))))))))))))
 ·exact ⟨_,_,0,0,Qai (Qai (Qap (ds:=(sq 3 12)) (Agr.refl _ _)) rfl) rfl,(by omega),rfl,(⟨by omega,by omega⟩),rfl,hs⟩
 rintro μ J' w3 ⟨Jo,k,n,rfl,hk,hn,hnb,rfl,hs⟩
 refine Qah (Qah (Qab (Qaa (Qac (V:=I6 (k:Int)) rfl (Qaa (QaQ rfl rfl (Qaf (Qao (t:=decide ((k:Int)<16)) rfl (fun c4=>?_) (fun c4=>?_)))))))))
 ·
  replace c4:=QQ1 c4
  refine Qaq (Qah (Qan ?_))
  have hv1:=Qhh hv k
  refine Qab (Qaa (Qac (V:=.int .u64 n) rfl (Qaa (Qac (V:=I6 (k:Int)) rfl (Qaa (QbT QeZ QaY.1 rfl rfl (by omega) (by omega) (Qaa (QaE (V:=.int .u32 (vat v k)) QaY hs 0 rfl rfl (QfC (by omega) (by omega)) (Qaa (Qb5 QkC QpA rfl (Qdd (by omega) (by omega)) (Qaa (QaD (a:=n) (b:=vat v k) (c:=n+(vat v k)) rfl rfl (Qdd (by omega) (by omega)) (Qaa (Qad (V:=.int .u64 (n+(vat v k))) rfl (Qaf (Qab (Qaa (Qac (V:=I6 (k:Int)) rfl (Qaa (QaD (a:=(k:Int)) (b:=1) (c:=(k:Int)+1) rfl rfl (QbH (by omega) (by omega)) (Qaa (Qad (V:=I6 ((k:Int)+1)) rfl (Qaf ?_)))))))))))))))))))))))
  refine ⟨_,?_,_,k+1,n+(vat v k),Qai (Qai (Qap (ds:=(sq 3 12)) (by repeat (first|exact Agr.refl _ _|refine Agr.upd ?_ rfl|refine Agr.mix ?_ rfl))) rfl) rfl,(by omega),(Qg6 hn),(⟨by omega,by omega⟩),rfl,hs.take 1⟩
  omega
 replace c4:=QQ2 c4
 refine QaG (Qah (Qab (Qaa (Qac (V:=.int .u64 n) rfl (Qaa (Qad (V:=.int .u64 n) rfl (Qaf (Qav ?_))))))))
 refine ⟨_,Qar (V:=.int .u64 n) Tryz.results99 rfl,(Zr hs ?_)⟩
 rw [hn,show k=16 by omega,Qno]
end Tt
end Go.Proofs
