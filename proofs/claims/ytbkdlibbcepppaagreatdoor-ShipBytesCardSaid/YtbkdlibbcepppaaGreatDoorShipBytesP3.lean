/- A part of a proof: what functions of the program compute, and plain facts on that. -/
import Derived.Test.YtbkdlibbcepppaaGreatDoorShipBytesP2
import Derived.KernelRfl
import Derived.Test.YtbkdlibbcepppaaGreatDoorProg
import Derived.Laws.Cover3
import Derived.Laws.BytesArg
import Derived.MapKept
import Derived.Laws.AppendOwn
import Derived.Lib.AppendZeros
import Derived.Lib.AppendZerosOnto
set_option linter.unusedVariables false
set_option linter.unusedSectionVars false
set_option linter.unusedSimpArgs false
set_option maxHeartbeats 4000000
set_option maxRecDepth 100000
namespace Go.Vx
open Go.RowKit
structure Msv where
 c:Msc
 a:Option Addr
 n:Nat
 a2:Option Addr
 n2:Nat
def msv (x:Msv):List Value:=[.int .i64 x.c.kind,.int .u8 x.c.frm]++vc x.c.known++[.slice x.a x.c.ops.length x.n,.int .i64 x.c.idx,.int .i64 x.c.tot,.slice x.a2 x.c.b.length x.n2]
theorem Qbo (x:Msv):∀ u∈msv x,u.oneCell'=true:=by
 intro u hu
 simp only [msv,vc,List.cons_append,List.nil_append,List.mem_cons,List.not_mem_nil,or_false] at hu
 rcases hu with rfl|rfl|rfl|rfl|rfl|rfl|rfl|rfl|rfl|rfl|rfl|rfl|rfl|rfl|rfl|rfl|rfl|rfl|rfl|rfl|rfl|rfl<;>rfl
theorem Qjl {m:Msc} (h:(decide (16<=m.frm)||!QaE m.known 16)=true):Qah m=false:=by
 unfold Qah
 simp only [Bool.or_eq_true,Bool.not_eq_true',decide_eq_true_eq] at h
 rcases h with h|h
 ·rw [QQ4 (by omega)];rfl
 ·rw [h];simp
theorem Qcy {m:Msc} (h:¬16<=m.frm) (h1:QaE m.known 16=true):Qah m=QgD m:=by
 unfold Qah
 rw [QQ3 (by omega),h1];rfl
theorem Qmp {m:Msc} (h:m.kind=1):QgD m=(QaJ m&&decide (m.ops.length=0)):=by unfold QgD;rw [if_pos h]
theorem Qom {m:Msc} (h1:¬m.kind=1) (h:m.kind=2):QgD m=Qur m:=by unfold QgD;rw [if_neg h1,if_pos h]
theorem QnV {m:Msc} (h1:¬m.kind=1) (h2:¬m.kind=2) (h:m.kind=3):QgD m=Qky m:=by unfold QgD;rw [if_neg h1,if_neg h2,if_pos h]
theorem Qmn {m:Msc} (h1:¬m.kind=1) (h2:¬m.kind=2) (h:¬m.kind=3):QgD m=false:=by unfold QgD;rw [if_neg h1,if_neg h2,if_neg h]
theorem Qs7 {α:Type} {p:α->Bool} {l:List α}:(!(l.any fun o=>!p o))=l.all p:=by
 rw [Bool.eq_iff_iff]
 simp
theorem QnH {m:Msc}:(decide (m.ops.length=0)&&(((decide (1<=m.tot)&&decide (m.tot<=64))&&decide (0<=m.idx))&&decide (m.idx<m.tot))&&(decide (m.b.length=2000)||((decide (1<=m.b.length)&&decide (m.b.length<2000))&&decide (m.idx=IntKind.i64.wrap (m.tot-1)))))=Qky m:=by
 unfold Qky
 rw [Bool.eq_iff_iff]
 simp only [Bool.and_eq_true,Bool.or_eq_true,decide_eq_true_eq]
 have hw:1<=m.tot->m.tot<=64->IntKind.i64.wrap (m.tot-1)=m.tot-1:=fun h1 h2=>by rw [IntKind.wrap_i64];omega
 constructor
 ·rintro ⟨⟨a,⟨⟨b,c⟩,d⟩,e⟩,f⟩
  rw [hw b c] at f
  exact ⟨⟨⟨⟨⟨⟨⟨a,b⟩,c⟩,d⟩,e⟩,by omega⟩,by omega⟩,by omega⟩
 ·rintro ⟨⟨⟨⟨⟨⟨⟨a,b⟩,c⟩,d⟩,e⟩,f⟩,g⟩,h⟩
  rw [hw b c]
  exact ⟨⟨a,⟨⟨b,c⟩,d⟩,e⟩,by omega⟩
theorem QpS {m:Msc}:(((((((decide (m.ops.length=0)&&decide (1<=m.tot))&&decide (m.tot<=64))&&decide (0<=m.idx))&&decide (m.idx<m.tot))&&decide (1<=m.b.length))&&decide (m.b.length<=2000))&&(decide (m.b.length=2000)||decide (m.idx=IntKind.i64.wrap (m.tot-1))))=Qky m:=by
 unfold Qky
 rw [Bool.eq_iff_iff]
 simp only [Bool.and_eq_true,Bool.or_eq_true,decide_eq_true_eq]
 have hw:1<=m.tot->m.tot<=64->IntKind.i64.wrap (m.tot-1)=m.tot-1:=fun h1 h2=>by rw [IntKind.wrap_i64];omega
 constructor
 ·rintro ⟨⟨⟨⟨⟨⟨⟨a,b⟩,c⟩,d⟩,e⟩,f⟩,g⟩,h⟩
  rw [hw b c] at h
  exact ⟨⟨⟨⟨⟨⟨⟨a,b⟩,c⟩,d⟩,e⟩,f⟩,g⟩,h⟩
 ·rintro ⟨⟨⟨⟨⟨⟨⟨a,b⟩,c⟩,d⟩,e⟩,f⟩,g⟩,h⟩
  rw [hw b c]
  exact ⟨⟨⟨⟨⟨⟨⟨a,b⟩,c⟩,d⟩,e⟩,f⟩,g⟩,h⟩
theorem Qpi {α:Type} [Inhabited α] {p:α->Bool} {l:List α} {k:Nat} (h:(l.take k).all p=true) (hk:k<l.length) (hp:p (gd l k)=true):(l.take (k+1)).all p=true:=by
 rw [QdY hk,List.all_append,h];simp [hp]
theorem QtB {α:Type} [Inhabited α] {p:α->Bool} {l:List α} {k:Nat} (hk:k<l.length) (hp:p (gd l k)=false):l.all p=false:=by
 rw [Bool.eq_false_iff]
 intro h
 rw [List.all_eq_true] at h
 rw [h _ (Qcw hk)] at hp
 cases hp
theorem QnL {m:Msc} (h:m.kind=1):[]++Qan m.kind.toNat++Qan m.frm.toNat++QaM (QaF m.known)=Qap m:=by
 unfold Qap Qc8
 rw [if_neg (by omega),if_neg (by omega)]
 simp
theorem QtD {m:Msc} (h:m.kind=3):[]++Qan m.kind.toNat++Qan m.frm.toNat++QaM (QaF m.known)++Qan m.idx.toNat++Qan m.tot.toNat++QaM m.b=Qap m:=by
 unfold Qap Qc8
 rw [if_neg (by omega),if_pos h]
 simp
def QfN (m:Msc) (k:Nat):Bs:=[]++Qan m.kind.toNat++Qan m.frm.toNat++QaM (QaF m.known)++Qan m.ops.length++Qcd ((m.ops.take k).map Qbr)
theorem Qp5 {m:Msc} (h:m.kind=2):QfN m m.ops.length=Qap m:=by
 unfold Qap Qc8 QfN
 rw [if_pos h,List.take_length]
 simp
theorem Qfb {m:Msc} {k:Nat} (h:k<m.ops.length):QfN m (k+1)=QfN m k++QaM (Qbr (gd m.ops k)):=by
 unfold QfN
 rw [QdY h,List.map_append,List.map_singleton,Qhw]
 simp only [List.append_assoc]
theorem Qhu (m:Msc):[]++Qan m.kind.toNat++Qan m.frm.toNat++QaM (QaF m.known)++Qan m.ops.length=QfN m 0:=by
 unfold QfN
 simp [Qcd]
theorem QeW {n:Nat} (h:n<128):(Qan n).length=1:=by rw [Qb7 h];rfl
theorem QjU {m:Msc} (ok:MscOk m) (h:Qah m=true):(Qan m.kind.toNat).length=1/\(Qan m.frm.toNat).length=1/\(QaM (QaF m.known)).length<=83:=by
 obtain ⟨k1,k3,kf⟩:=QgA h
 have c:=Qct ok.kn
 have d:=QbV (l:=QaF m.known) (by omega)
 have hf:=ok.fr
 exact ⟨QeW (by omega),QeW (by omega),by omega⟩
theorem Qe1 {m:Msc} (ok:MscOk m) (h:Qah m=true) {k:Nat} (hk:k<=m.ops.length) (hn:m.ops.length<=16):(QfN m k).length<=90+155*k:=by
 obtain ⟨a,b,c⟩:=QjU ok h
 unfold QfN
 simp only [QQ7,List.length_nil]
 have b:=Qg6 (c:=155) (l:=(m.ops.take k).map Qbr) fun b hb=>by
  obtain ⟨o,ho,rfl⟩:=List.mem_map.1 hb
  have:=Qf8 (ok.op o (List.mem_of_mem_take ho))
  have:=QbV (l:=Qbr o) (by omega)
  omega
 rw [QQ6,List.length_take] at b
 have:=QeW (n:=m.ops.length) (by omega)
 have:min k m.ops.length=k:=by omega
 rw [this] at b
 omega
def MEX (m:Msc):Bs:=if Qah m=true then Qse m else []
def MER (m:Msc):Int:=if Qah m=true then 0 else 2
theorem QqY {m:Msc} (h:Qah m=false):MEX m=[]/\MER m=2:=by
 unfold MEX MER;rw [h];exact ⟨rfl,rfl⟩
theorem Qnr {m:Msc} (h:Qah m=true):MEX m=Qaz (Qap m)/\MER m=0:=by
 unfold MEX MER;rw [h];exact ⟨rfl,rfl⟩
end Go.Vx
namespace Go.Proofs
open Go Go.Vx Go.RowKit
open Tryz
namespace Tt
theorem Qc3:T1 prog 22:=⟨sizeOf22,isAgg22⟩
theorem QbW:TA prog 38 22:=⟨sizeOf38,isAgg38⟩
theorem QtS:En prog 171:=call171
theorem Qtl:En prog 90:=call90
theorem QvF:En prog 91:=call91
theorem Qva:En prog 93:=call93
theorem QvZ:En prog 95:=call95
theorem Qgo:FA prog 38 0 0:=fun b o w=>by simp [Instr.fieldAt,Instr.sureAddr,fieldPlace,QaR]
theorem Qkn:FA prog 38 1 1:=fun b o w=>by simp [Instr.fieldAt,Instr.sureAddr,fieldPlace,QaR]
theorem Qio:FA prog 38 2 2:=fun b o w=>by simp [Instr.fieldAt,Instr.sureAddr,fieldPlace,QaR]
theorem Qfs:FA prog 38 3 18:=fun b o w=>by simp [Instr.fieldAt,Instr.sureAddr,fieldPlace,QaR]
theorem Qfd:FA prog 38 4 19:=fun b o w=>by simp [Instr.fieldAt,Instr.sureAddr,fieldPlace,QaR]
theorem Qeu:FA prog 38 5 20:=fun b o w=>by simp [Instr.fieldAt,Instr.sureAddr,fieldPlace,QaR]
theorem Qfh:FA prog 38 6 21:=fun b o w=>by simp [Instr.fieldAt,Instr.sureAddr,fieldPlace,QaR]
theorem Qew:FA prog 86 0 0:=fun b o w=>by simp [Instr.fieldAt,Instr.sureAddr,fieldPlace,QaR]
theorem Qh1:FA prog 86 1 1:=fun b o w=>by simp [Instr.fieldAt,Instr.sureAddr,fieldPlace,QaR]
theorem Qgp:FA prog 86 2 2:=fun b o w=>by simp [Instr.fieldAt,Instr.sureAddr,fieldPlace,QaR]
theorem Qb8:FA prog 86 3 18:=fun b o w=>by simp [Instr.fieldAt,Instr.sureAddr,fieldPlace,QaR]
theorem QdM:FA prog 86 4 19:=fun b o w=>by simp [Instr.fieldAt,Instr.sureAddr,fieldPlace,QaR]
theorem Qdq:FA prog 86 5 20:=fun b o w=>by simp [Instr.fieldAt,Instr.sureAddr,fieldPlace,QaR]
theorem Qdu:FA prog 86 6 21:=fun b o w=>by simp [Instr.fieldAt,Instr.sureAddr,fieldPlace,QaR]
end Tt
end Go.Proofs
namespace Go.Proofs
open Go Go.Vx Go.RowKit
open Tryz
namespace Tt
theorem Qn0:En prog 28:=call28
theorem Qvn:En prog 50:=call50
theorem Qs9:En prog 52:=call52
end Tt
end Go.Proofs
namespace Go.Proofs
open Go Go.Vx Go.RowKit
open Tryz
namespace Tt
theorem QbI:TA prog 86 22:=⟨sizeOf86,isAgg86⟩
theorem QuN:En prog 162:=call162
theorem Qnu:En prog 29:=call29
theorem Qpl:En prog 76:=call76
end Tt
end Go.Proofs
namespace Go.Vx
open Go.RowKit
def FiF (l f:Bs) (j e:Nat):Prop:=QaP l=(f,j,e)
theorem QgC {l:Bs} (ok:QaZ l):QaZ (QaP l).1/\(QaP l).1.length<=l.length:=by
 have hn:QaZ ([]:Bs):=fun _ h=>nomatch h
 unfold QaP
 split
 ·exact ⟨hn,Nat.zero_le _⟩
 split
 ·exact ⟨hn,Nat.zero_le _⟩
 split
 ·exact ⟨hn,Nat.zero_le _⟩
 split
 ·exact ⟨hn,Nat.zero_le _⟩
 exact ⟨(ok.drop _).take _,by simp only [List.length_take,List.length_drop];omega⟩
def SmF (r:Rdr) (n:Nat) (r':Rdr):Prop:=n=min (Qaj r).1 100/\r'=(Qaj r).2.2
def ByF (r:Rdr) (b:Bs) (e:Nat) (r':Rdr):Prop:=b=(QaT r).1/\e=(QaT r).2.1/\r'=(QaT r).2.2
theorem QeI {r:Rdr}:(QaT r).2.2.l.length<=r.l.length/\(QaT r).1.length<=r.l.length:=by
 have h:=Qh4 (r:=r)
 unfold QaT
 split
 ·exact ⟨h,Nat.zero_le _⟩
 split
 ·exact ⟨h,Nat.zero_le _⟩
 refine ⟨?_,?_⟩
 ·rw [List.length_drop];omega
 rw [List.length_take];omega
structure HdF (f:Bs) (x0 x1:Nat) (bv:Bs) (r3:Rdr):Prop where
 k:x0=min (xK f) 100
 x:x1=min (xF f) 100
 v:bv=bV f
 r:r3=rV f
theorem HdF.mk' {f:Bs} {x0 x1 e:Nat} {bv:Bs} {r1 r2 r3:Rdr} (h1:SmF ⟨0,f⟩ x0 r1) (h2:SmF r1 x1 r2) (h3:ByF r2 bv e r3):HdF f x0 x1 bv r3:=by
 obtain ⟨a1,a2⟩:=h1
 obtain ⟨b1,b2⟩:=h2
 obtain ⟨c1,_,c3⟩:=h3
 have e1:r1=rK f:=by rw [a2];rfl
 have e2:r2=rF f:=by rw [b2,e1];rfl
 exact ⟨a1,by rw [b1,e1];rfl,by rw [c1,e2];rfl,by rw [c3,e2];rfl⟩
structure FlK (f:Bs) (k:Nat) (r:Rdr) (Q:List Opn):Prop where
 r:r=(Qcx k (rN f)).2
 q:Qmg (Qcx k (rN f)).1 Q
theorem FlK.zero {f:Bs} {x0 x1 n:Nat} {bv:Bs} {r3 r4:Rdr} (h:HdF f x0 x1 bv r3) (h4:SmF r3 n r4):FlK f 0 r4 []/\n=min (xN f) 100:=by
 obtain ⟨a,b⟩:=h4
 refine ⟨⟨by rw [b,h.r];rfl,Qmg.nil⟩,by rw [a,h.r];rfl⟩
theorem FlK.next {f:Bs} {k e:Nat} {r r':Rdr} {Q:List Opn} {b:Bs} {o:Opn} (h:FlK f k r Q) (h1:ByF r b e r') (ho:Qef b o 0):FlK f (k+1) r' (Q++[o]):=by
 obtain ⟨a1,_,a3⟩:=h1
 have hio:IsO b o:=by
  rcases ho with ⟨_,h⟩|⟨h,_⟩
  ·exact h
  cases h
 refine ⟨by rw [a3,h.r];rfl,?_⟩
 have:=h.q.snoc hio
 rw [a1,h.r] at this
 exact this
theorem FlK.len {f:Bs} {k:Nat} {r:Rdr} {Q:List Opn} (h:FlK f k r Q):Q.length=k:=by rw [← h.q.1,Qe6]
theorem FlK.no {l f:Bs} {k e j:Nat} {x0 x1:Nat} {bv:Bs} {r3 r:Rdr} {Q:List Opn} {b:Bs} {o:Opn} {e':Nat} {r':Rdr} (hf:FiF l f j 0) (hh:HdF f x0 x1 bv r3) (h:FlK f k r Q) (h2:x0=2) {n:Nat} (hn:n=min (xN f) 100) (hk:k<min n 17) (h1:ByF r b e' r') (ho:Qef b o e) (he:e≠0):QcT l mscz 5:=by
 refine Qnm hf (by rw [← hh.k,h2]) (by rw [← hn];exact hk) ?_ ho he
 rw [h1.1,h.r]
theorem Qtv {l f:Bs} {j g:Nat} {x0 x1:Nat} {bv:Bs} {r3:Rdr} {v:Vec} (hf:FiF l f j 0) (hh:HdF f x0 x1 bv r3) (hv:QcA bv v g) (hg:g≠0):QcT l mscz 5:=by
 refine .no (by rw [show QaP l=(f,j,0) from hf]) fun u hu=>hg ?_
 rw [hh.v] at hv
 exact (QfZ hu hf hv).1
theorem Quo {l f:Bs} {j:Nat} (hf:FiF l f j 0) (hj:j≠l.length):QcT l mscz 5 :=
 .no (by rw [show QaP l=(f,j,0) from hf]) fun _ hu=>hj (QcC hu hf).2.1
theorem Qs4 {l f:Bs} {x0 x1:Nat} {bv:Bs} {r3:Rdr} {v:Vec} (ok:QaZ l) (hf:FiF l f l.length 0) (hh:HdF f x0 x1 bv r3) (hv:QcA bv v 0) (h2:x0≠2) (h3:x0≠3) {m:Msc} (hm:m=⟨(x0:Int),(x1:Int),v,[],0,0,[]⟩) :
  (QaU r3=true/\Qah m=true->QcT l m 0)/\(¬(QaU r3=true/\Qah m=true)->QcT l mscz 5):=by
 have hm2:m=QjQ f v [] 0 0 []:=by rw [hm,hh.k,hh.x]
 rw [hm2,hh.r]
 exact Qqq ok hf (by rw [← hh.v];exact hv) (by rw [← hh.k];exact h2) (by rw [← hh.k];exact h3)
theorem Qr9 {l f:Bs} {x0 x1 n k:Nat} {bv:Bs} {r3 r:Rdr} {v:Vec} {Q:List Opn} (ok:QaZ l) (hf:FiF l f l.length 0) (hh:HdF f x0 x1 bv r3) (hv:QcA bv v 0) (h2:x0=2) (hn:n=min (xN f) 100) (hk:k=min n 17) (hq:FlK f k r Q) {m:Msc} (hm:m=⟨(x0:Int),(x1:Int),v,Q,0,0,[]⟩) :
  (QaU r=true/\Qah m=true->QcT l m 0)/\(¬(QaU r=true/\Qah m=true)->QcT l mscz 5):=by
 have hm2:m=QjQ f v Q 0 0 []:=by rw [hm,hh.k,hh.x]
 rw [hm2,hq.r]
 exact QpQ ok hf (by rw [← hh.v];exact hv) (by rw [← hh.k];exact h2) (by rw [hk,hn]) hq.q
theorem Qn5 {l f:Bs} {x0 x1 n t e:Nat} {bv bb:Bs} {r3 r4 r5 r6:Rdr} {v:Vec} (ok:QaZ l) (hf:FiF l f l.length 0) (hh:HdF f x0 x1 bv r3) (hv:QcA bv v 0) (h3:x0=3) (h4:SmF r3 n r4) (h5:SmF r4 t r5) (h6:ByF r5 bb e r6) {m:Msc} (hm:m=⟨(x0:Int),(x1:Int),v,[],(n:Int),(t:Int),bb⟩) :
  (QaU r6=true/\Qah m=true->QcT l m 0)/\(¬(QaU r6=true/\Qah m=true)->QcT l mscz 5):=by
 obtain ⟨a1,a2⟩:=h4
 obtain ⟨b1,b2⟩:=h5
 obtain ⟨c1,_,c3⟩:=h6
 have e4:r4=rN f:=by rw [a2,hh.r];rfl
 have e5:r5=rT f:=by rw [b2,e4];rfl
 have e6:r6=rB f:=by rw [c3,e5];rfl
 have hm2:m=QjQ f v [] ((min (xN f) 100:Nat):Int) ((min (xT f) 100:Nat):Int) (bB f):=by
  rw [hm,hh.k,hh.x,a1,b1,c1,e5,e4,hh.r];rfl
 rw [e6]
 exact Ql0 ok hf (by rw [← hh.v];exact hv) (by rw [← hh.k];exact h3) hm2
end Go.Vx
namespace Go.Proofs
open Go Go.Vx Go.RowKit
open Tryz
namespace Tt
theorem QjX:Bt prog 38 [(0,1),(1,1),(2,16),(18,1),(19,1),(20,1),(21,1)] (msv (⟨⟨0,0,vzero,[],0,0,[]⟩,none,0,none,0⟩:Msv)):=Qcf type38 rfl rfl underlying38 (by kernel_rfl)
theorem Qqv:El prog 22 54 23 84:=⟨underlying22,_,_,type54,rfl,rfl,rfl,rfl,by decide⟩
theorem Qu0:En prog 77:=call77
theorem QmE:En prog 79:=call79
theorem Qv3:En prog 82:=call82
theorem Qqu:Zv prog 38 (.agg (msv (⟨⟨0,0,vzero,[],0,0,[]⟩,none,0,none,0⟩:Msv)).toArray):=zeroValue38
end Tt
end Go.Proofs
namespace Go.Vx
open Go.RowKit
def NmF (r:Rdr) (n e:Nat) (r':Rdr):Prop:=n=(Qaj r).1/\e=(Qaj r).2.1/\r'=(Qaj r).2.2
def OpF (r:Rdr) (k:Nat) (Q:List Opn):Prop:=QfO (Qcx k r).1 Q/\∀ o∈Q,QbK o
structure OfK (r:Rdr) (k:Nat) (r':Rdr) (Q:List Opn):Prop where
 hr:r'=(Qcx k r).2
 hq:OpF r k Q
theorem OfK.zero (r:Rdr):OfK r 0 r []:=⟨rfl,QfO.nil,fun _ h=>nomatch h⟩
theorem OfK.next {r r' r'':Rdr} {k e e':Nat} {Q:List Opn} {b:Bs} {o:Opn} (h:OfK r k r' Q) (h1:ByF r' b e r'') (ho:Qef b o e'):OfK r (k+1) r'' (Q++[o]):=by
 obtain ⟨a1,_,a3⟩:=h1
 refine ⟨by rw [a3,h.hr];rfl,?_,fun x hx=>?_⟩
 ·have:=h.hq.1.snoc ho
  rw [a1,h.hr] at this
  exact this
 rcases List.mem_append.1 hx with h'|h'
 ·exact h.hq.2 x h'
 rw [List.mem_singleton.1 h'];exact ho.ok
theorem OfK.len {r r':Rdr} {k:Nat} {Q:List Opn} (h:OfK r k r' Q):Q.length=k:=by rw [← h.hq.1.1,Qe6]
structure HdN (f:Bs) (n0 n1:Nat) (bv:Bs) (r3:Rdr):Prop where
 k:n0=xK f
 x:n1=xF f
 v:bv=bV f
 r:r3=rV f
theorem HdN.mk' {f:Bs} {n0 n1 e0 e1 e:Nat} {bv:Bs} {r1 r2 r3:Rdr} (h1:NmF ⟨0,f⟩ n0 e0 r1) (h2:NmF r1 n1 e1 r2) (h3:ByF r2 bv e r3):HdN f n0 n1 bv r3:=by
 obtain ⟨a1,_,a2⟩:=h1
 obtain ⟨b1,_,b2⟩:=h2
 obtain ⟨c1,_,c3⟩:=h3
 have e1:r1=rK f:=by rw [a2];rfl
 have e2:r2=rF f:=by rw [b2,e1];rfl
 exact ⟨a1,by rw [b1,e1];rfl,by rw [c1,e2];rfl,by rw [c3,e2];rfl⟩
theorem Qth {l f:Bs} {j g n0 n1:Nat} {bv:Bs} {r3:Rdr} {v:Vec} (hf:FiF l f j 0) (hh:HdN f n0 n1 bv r3) (hv:QcA bv v g) (h:g≠0∨3<n0∨15<n1):QcT l mscz 5:=by
 refine .no (by rw [show QaP l=(f,j,0) from hf]) fun u hu=>?_
 rw [hh.v] at hv
 have h1:=(QfZ hu hf hv).1
 obtain ⟨h2,_,_⟩:=QcC hu hf
 obtain ⟨_,q1,q2,_,_⟩:=Qcj hu
 obtain ⟨k1,k3,kf⟩:=QgA hu.2.1
 rw [← h2,← hh.k] at q1
 rw [← h2,← hh.x] at q2
 omega
theorem Qin {l f:Bs} {j n0 n1:Nat} {bv:Bs} {r3:Rdr} {v:Vec} {u:Msc} (hf:FiF l f j 0) (hh:HdN f n0 n1 bv r3) (hv:QcA bv v 0) (hu:IsM l u):f=Qap u/\(n0:Int)=u.kind/\(n1:Int)=u.frm/\v=u.known:=by
 rw [hh.v] at hv
 have h1:=(QfZ hu hf hv).2
 obtain ⟨h2,_,_⟩:=QcC hu hf
 obtain ⟨_,q1,q2,_,_⟩:=Qcj hu
 exact ⟨h2,by rw [hh.k,h2];exact q1,by rw [hh.x,h2];exact q2,h1⟩
theorem QsL {l f:Bs} {j n0 n1:Nat} {bv:Bs} {r3:Rdr} {v:Vec} (hf:FiF l f j 0) (hh:HdN f n0 n1 bv r3) (hv:QcA bv v 0) (h2:n0≠2) (h3:n0≠3) {m:Msc} (hm:m=⟨(n0:Int),(n1:Int),v,[],0,0,[]⟩):∀ u,IsM l u->u=m:=fun u hu=>by
 obtain ⟨_,a,b,c⟩:=Qin hf hh hv hu
 obtain ⟨_,w⟩:=QaG hu.2.1
 rw [hm]
 have w:u.idx=0/\u.tot=0/\u.b=[]/\u.ops=[]:=by
  rcases w with w|w|w
  ·exact ⟨w.2.1,w.2.2.1,w.2.2.2.1,w.2.2.2.2⟩
  ·omega
  omega
 exact Qc4 a.symm b.symm c.symm w.2.2.2 w.1 w.2.1 w.2.2.1
theorem QsM {l f:Bs} {j n0 n1 n2 e2:Nat} {bv:Bs} {r3 r4:Rdr} {v:Vec} {Q:List Opn} (hf:FiF l f j 0) (hh:HdN f n0 n1 bv r3) (hv:QcA bv v 0) (h2:n0=2) (h4:NmF r3 n2 e2 r4) (hq:OpF r4 (min n2 17) Q) {m:Msc} (hm:m=⟨(n0:Int),(n1:Int),v,Q,0,0,[]⟩):∀ u,IsM l u->u=m:=fun u hu=>by
 obtain ⟨hb,a,b,c⟩:=Qin hf hh hv hu
 obtain ⟨_,w⟩:=QaG hu.2.1
 have hu2:u.kind=2:=by omega
 obtain ⟨q1,q2,q3⟩:=QgE hu hu2
 obtain ⟨d1,_,d3⟩:=h4
 have e4:r4=rN (Qap u):=by rw [d3,hh.r,hb];rfl
 have e2:n2=u.ops.length:=by rw [d1,hh.r,hb];exact q1
 have q4:=q3 u.ops.length (Nat.le_refl _)
 have hq1:=hq.1
 rw [e4,show min n2 17=u.ops.length by omega,q4,List.take_of_length_le (by rw [QQ6];omega)] at hq1
 have hQ:=hq1.enc (QeF hu hu2)
 rw [hm]
 have w:u.idx=0/\u.tot=0/\u.b=[]:=by
  rcases w with w|w|w
  ·omega
  ·exact ⟨w.2.1,w.2.2.1,w.2.2.2.1⟩
  omega
 exact Qc4 a.symm b.symm c.symm hQ.symm w.1 w.2.1 w.2.2
theorem Qno {l f:Bs} {j n0 n1 n2 e2 n3 e3 e4:Nat} {bv bb:Bs} {r3 r4 r5 r6:Rdr} {v:Vec} (hf:FiF l f j 0) (hh:HdN f n0 n1 bv r3) (hv:QcA bv v 0) (h3:n0=3) (h4:NmF r3 n2 e2 r4) (h5:NmF r4 n3 e3 r5) (h6:ByF r5 bb e4 r6) {m:Msc} (hm:m=⟨(n0:Int),(n1:Int),v,[],((min n2 100:Nat):Int),((min n3 100:Nat):Int),bb⟩):∀ u,IsM l u->u=m:=fun u hu=>by
 obtain ⟨hb,a,b,c⟩:=Qin hf hh hv hu
 obtain ⟨_,w⟩:=QaG hu.2.1
 have hu3:u.kind=3:=by omega
 obtain ⟨q1,q2,q3,q4,q5,q6⟩:=Qgh hu hu3
 obtain ⟨d1,_,d3⟩:=h4
 obtain ⟨f1,_,f3⟩:=h5
 obtain ⟨g1,_,_⟩:=h6
 have e4:r4=rN (Qap u):=by rw [d3,hh.r,hb];rfl
 have e5:r5=rT (Qap u):=by rw [f3,e4];rfl
 have e2:n2=xN (Qap u):=by rw [d1,hh.r,hb];rfl
 have e3:n3=xT (Qap u):=by rw [f1,e4];rfl
 have e6:bb=u.b:=by rw [g1,e5];exact q3
 rw [hm]
 have w:u.ops=[]/\0<=u.idx/\1<=u.tot:=by
  rcases w with w|w|w
  ·omega
  ·omega
  exact ⟨w.2.1,w.2.2.2.2.1,w.2.2.1⟩
 exact Qc4 a.symm b.symm c.symm w.1 (by simp only;omega) (by simp only;omega) e6.symm
theorem Qkq {l f:Bs} {j:Nat} (hf:FiF l f j 0) {m:Msc} (hm:MscOk m) (hs:∀ u,IsM l u->u=m):(Qah m=true/\Qse m=l->QcT l m 0)/\(¬(Qah m=true/\Qse m=l)->QcT l mscz 5):=QpW hf hm hs
theorem QrG {r:Rdr} (ok:QaZ r.l):(Qaj r).1<18446744073709551616:=by
 by_cases h:(Qaj r).2.2.e=0
 ·exact (Qdr ok h).2.2.2
 unfold Qaj at h ⊢
 split
 ·exact (by decide:0<18446744073709551616)
 rename_i h1
 rw [if_neg h1] at h
 split
 ·exact (by decide:0<18446744073709551616)
 rename_i h2
 rw [if_neg h2] at h
 exact absurd rfl h
theorem Rdv.byt_len {w:World} {x:Rdv} (h:x.ok w):x.byt.l.length<=x.l.length:=by
 have h1:=(Rdv.byt_ok h).2.1
 have h2:=(QeI (r:=x.r)).1
 rw [← h1] at h2
 exact h2
end Go.Vx
namespace Go.Proofs
open Go Go.Vx Go.RowKit
open Tryz
namespace Tt
theorem QuM:En prog 169:=call169
end Tt
end Go.Proofs
namespace Go.Proofs
open Go Go.Vx Go.RowKit
open Tryz
namespace Tt
theorem Ql3:Bt prog 86 [(0,1),(1,1),(2,16),(18,1),(19,1),(20,1),(21,1)] (msv (⟨⟨0,0,vzero,[],0,0,[]⟩,none,0,none,0⟩:Msv)):=Qcf type86 rfl rfl underlying86 (by kernel_rfl)
theorem Qv9:En prog 84:=call84
theorem Qu6:En prog 88:=call88
theorem Qpx:Zv prog 86 (.agg (msv (⟨⟨0,0,vzero,[],0,0,[]⟩,none,0,none,0⟩:Msv)).toArray):=zeroValue86
end Tt
end Go.Proofs
namespace Go.Vx
deriving instance DecidableEq for Msc
theorem Qwg {u:Msc} (h:Qah u=true) (hk:u.kind≠2):u.ops=[]:=by
 rcases (QaG h).2 with ⟨_,_,_,_,h⟩|⟨k,_⟩|⟨_,h,_⟩
 ·exact h
 ·exact absurd k hk
 exact h
theorem QsY {b:Bs} {u m:Msc} (h:IsM b u) (h':IsM b m):u=m:=by
 have g:=Qcj h
 have g':=Qcj h'
 have hb:Qap u=Qap m:=by
  have:=g.1.symm.trans g'.1
  injection this
 obtain ⟨_,a1,a2,a3,_⟩:=g
 obtain ⟨_,b1,b2,b3,_⟩:=g'
 rw [hb] at a1 a2 a3
 have hk:u.kind=m.kind:=a1.symm.trans b1
 have hf:u.frm=m.frm:=a2.symm.trans b2
 have hv:u.known=m.known:=by
  have:=a3.symm.trans b3
  exact (Qd4 h.1.kn h'.1.kn this)
 have hu:=(QaG h.2.1).2
 have hm:=(QaG h'.2.1).2
 by_cases k2:u.kind=2
 ·have k2':m.kind=2:=hk ▸ k2
  obtain ⟨c1,_,c3⟩:=QgE h k2
  obtain ⟨d1,_,d3⟩:=QgE h' k2'
  have hl:u.ops.length=m.ops.length:=by rw [← c1,← d1,hb]
  have e1:=c3 u.ops.length (Nat.le_refl _)
  have e2:=d3 m.ops.length (Nat.le_refl _)
  rw [hb,hl,e2] at e1
  have e3:m.ops.map Qbr=u.ops.map Qbr:=by
   have:=congrArg Prod.fst e1
   simp only at this
   rw [List.take_of_length_le (by rw [QQ6]<;>omega),List.take_of_length_le (by rw [QQ6]<;>omega)] at this
   exact this
  have e4:QfO (u.ops.map Qbr) m.ops:=by
   rw [← e3]
   refine ⟨by rw [QQ6],fun i hi=>⟨0,?_⟩⟩
   obtain ⟨p,q⟩:=QeF h' k2' _ (List.getElem_mem hi)
   simp only [List.getD_eq_getElem?_getD,List.getElem?_map,List.getElem?_eq_getElem hi,Option.map_some,Option.getD_some]
   exact .inl ⟨rfl,p,q,rfl⟩
  have e5:=QfO.enc (fun x hx=>QeF h k2 x hx) e4
  have hu':u.idx=0/\u.tot=0/\u.b=[]:=by
   rcases hu with ⟨k,_⟩|⟨_,a,b,c,_⟩|⟨k,_⟩
   ·omega
   ·exact ⟨a,b,c⟩
   omega
  have hm':m.idx=0/\m.tot=0/\m.b=[]:=by
   rcases hm with ⟨k,_⟩|⟨_,a,b,c,_⟩|⟨k,_⟩
   ·omega
   ·exact ⟨a,b,c⟩
   omega
  exact Qc4 hk hf hv e5.symm (hu'.1.trans hm'.1.symm) (hu'.2.1.trans hm'.2.1.symm) (hu'.2.2.trans hm'.2.2.symm)
 have ho:u.ops=m.ops:=(Qwg h.2.1 k2).trans (Qwg h'.2.1 (hk ▸ k2)).symm
 by_cases k3:u.kind=3
 ·obtain ⟨c1,c2,c3,_⟩:=Qgh h k3
  obtain ⟨d1,d2,d3,_⟩:=Qgh h' (hk ▸ k3)
  rw [hb] at c1 c2 c3
  exact Qc4 hk hf hv ho (c1.symm.trans d1) (c2.symm.trans d2) (c3.symm.trans d3)
 have hu':u.idx=0/\u.tot=0/\u.b=[]:=by
  rcases hu with ⟨_,a,b,c,_⟩|⟨k,_⟩|⟨k,_⟩
  ·exact ⟨a,b,c⟩
  ·omega
  omega
 have hm':m.idx=0/\m.tot=0/\m.b=[]:=by
  rcases hm with ⟨_,a,b,c,_⟩|⟨k,_⟩|⟨k,_⟩
  ·exact ⟨a,b,c⟩
  ·omega
  omega
 exact Qc4 hk hf hv ho (hu'.1.trans hm'.1.symm) (hu'.2.1.trans hm'.2.1.symm) (hu'.2.2.trans hm'.2.2.symm)
theorem QcT.uniq {b:Bs} {m n:Msc} {e f:Nat} (h:QcT b m e) (h':QcT b n f):m=n/\e=f:=by
 rcases h with ⟨h1,h2,h3⟩|⟨h1,h2⟩<;>rcases h' with ⟨g1,g2,g3⟩|⟨g1,g2⟩
 ·exact ⟨h3.trans g3.symm,h2.trans g2.symm⟩
 ·exact absurd g1 h1
 ·exact absurd h1 g1
 rcases h2 with ⟨a,b⟩|⟨a,b,c⟩<;>rcases g2 with ⟨a',b'⟩|⟨a',b',c'⟩
 ·exact ⟨QsY b b',a.trans a'.symm⟩
 ·exact absurd b (c' _)
 ·exact absurd b' (c _)
 exact ⟨b.trans b'.symm,a.trans a'.symm⟩
theorem QgU {x y:Msc} (h:¬x=y):Value.bool false=Value.bool (decide (x=y)):=by rw [QQ4 h]
theorem Qmb {x y:Msc} (h:x=y):Value.bool true=Value.bool (decide (x=y)):=by rw [QQ3 h]
theorem QcT.by_ {b:Bs} {m:Msc} {e:Nat} (_:QaZ b) (h:QcT b m e):QaZ m.b:=by
 rcases h with ⟨_,_,h⟩|⟨_,⟨_,h⟩|⟨_,h,_⟩⟩
 ·rw [h];exact QcY
 ·exact h.1.by_
 rw [h];exact QcY
def Qlr (m:Msc):Bool:=decide (m.ops.length<=30)&&decide (m.b.length<=4000)
theorem QsK {m:Msc}:Qlr m=(decide (((m.ops.length:Nat):Int)<=30)&&decide (((m.b.length:Nat):Int)<=4000)):=by
 unfold Qlr
 congr 1<;>exact decide_eq_decide.2 (by omega)
end Go.Vx
namespace Go.Proofs
open Go Go.Vx Go.RowKit
open Tryz
namespace Tt
theorem QvR (a b:Opn):EqF prog 3 54 (.agg (oc a).toArray) (.agg (oc b).toArray) (decide (a=b)):=by
 rw [← Qsh]
 exact Qd3 (D:=2) underlying54 stoodInHeld54 (.cons (by decide) (Qdf Ql4 rfl rfl) (Qdf Ql4 rfl rfl) ((Qu5 _ _).up (by decide)) (.cons (by decide) (QaQ ⟨sizeOf5,isAgg5⟩ rfl) (QaQ ⟨sizeOf5,isAgg5⟩ rfl) ((Qcp runUnderlying5).up (by decide)) (.cons (by decide) (QaQ ⟨sizeOf23,isAgg23⟩ rfl) (QaQ ⟨sizeOf23,isAgg23⟩ rfl) ((Qcp runUnderlying23).up (by decide)) (.cons (by decide) (QaQ ⟨sizeOf23,isAgg23⟩ rfl) (QaQ ⟨sizeOf23,isAgg23⟩ rfl) ((Qcp runUnderlying23).up (by decide)) (.cons (by decide) (QaQ ⟨sizeOf23,isAgg23⟩ rfl) (QaQ ⟨sizeOf23,isAgg23⟩ rfl) ((Qcp runUnderlying23).up (by decide)) (.cons (by decide) (QaQ ⟨sizeOf34,isAgg34⟩ rfl) (QaQ ⟨sizeOf34,isAgg34⟩ rfl) ((Qcp runUnderlying34).up (by decide)) (.cons (by decide) (Qdf QbC rfl rfl) (Qdf QbC rfl rfl) ((Qo1 _ _).up (by decide)) .nil)))))))
end Tt
end Go.Proofs
namespace Go.Ce
open Go.RowKit Go.Vx
inductive Tr (α:Type) where
 | lf
 | nd (v:Option α) (l r:Tr α)
noncomputable def fz {α:Type} (n:Nat) (f:Nat->α):α:=Nat.rec (f 0) (fun m _=>f (Nat.succ m)) n
theorem QtN {α:Type} (n:Nat) (f:Nat->α):fz n f=f n:=by cases n<;>rfl
namespace Tr
variable {α:Type}
noncomputable def get (t:Tr α):Nat->Option α :=
 Tr.rec (fun _=>none) (fun v _ _ gl gr k=>cond (Nat.beq k 0) v (fz (Nat.div k 2) fun h=>cond (Nat.beq (Nat.mod k 2) 1) (gl h) (gr (Nat.pred h)))) t
noncomputable def QsW (o:Option α) (n:Nat):Tr α->Nat->Tr α :=
 Nat.rec (fun t _=>t) (fun _ ih t k =>
  Tr.casesOn t
   (cond (Nat.beq k 0) (nd o lf lf) (fz (Nat.div k 2) fun h=>cond (Nat.beq (Nat.mod k 2) 1) (nd none (ih lf h) lf) (nd none lf (ih lf (Nat.pred h)))))
   (fun v l r=>cond (Nat.beq k 0) (nd o l r) (fz (Nat.div k 2) fun h=>cond (Nat.beq (Nat.mod k 2) 1) (nd v (ih l h) r) (nd v l (ih r (Nat.pred h)))))) n
noncomputable def put (t:Tr α) (k:Nat) (o:Option α):Tr α:=QsW o (Nat.succ k) t k
theorem get_lf (k:Nat):(lf:Tr α).get k=none:=rfl
theorem Qla (v:Option α) (l r:Tr α) (k:Nat):(nd v l r).get k=if k=0 then v else if k%2=1 then l.get (k/2) else r.get (k/2-1):=by
 show cond (Nat.beq k 0) v (fz (Nat.div k 2) fun h=>cond (Nat.beq (Nat.mod k 2) 1) (l.get h) (r.get (Nat.pred h)))=_
 rw [QtN,QbT,QbT]
 show cond (decide (k=0)) v (cond (decide (k%2=1)) (l.get (k/2)) (r.get (k/2-1)))=_
 by_cases h:k=0<;>by_cases h':k%2=1<;>simp [h,h']
theorem Qh0 (o:Option α):∀ (n:Nat) (t:Tr α) (k:Nat),k<n->∀ j,(QsW o n t k).get j=if j=k then o else t.get j
 | 0,_,_,h,_=>by omega
 | n+1,t,k,h,j=>by
  have key:∀ (v:Option α) (l r:Tr α),(cond (Nat.beq k 0) (nd o l r) (fz (Nat.div k 2) fun h=>cond (Nat.beq (Nat.mod k 2) 1) (nd v (QsW o n l h) r) (nd v l (QsW o n r (Nat.pred h))))).get j=if j=k then o else (nd v l r).get j:=by
   intro v l r
   rw [QtN,QbT,QbT]
   show (cond (decide (k=0)) (nd o l r) (cond (decide (k%2=1)) (nd v (QsW o n l (k/2)) r) (nd v l (QsW o n r (k/2-1))))).get j=_
   by_cases h0:k=0
   ·subst h0
    simp only [decide_true,cond_true,Qla]
    by_cases hj:j=0<;>simp [hj]
   simp only [h0,decide_false,cond_false]
   by_cases h1:k%2=1
   ·simp only [h1,decide_true,cond_true,Qla]
    rw [Qh0 o n l (k/2) (by omega)]
    by_cases hj:j=k
    ·subst hj;simp [h0,h1]
    by_cases hj0:j=0
    ·simp [hj0];omega
    by_cases hj1:j%2=1
    ·simp only [hj0,hj1,if_false,if_true,hj]
     rw [if_neg (by omega)]
    simp [hj0,hj1,hj]
   simp only [h1,decide_false,cond_false,Qla]
   rw [Qh0 o n r (k/2-1) (by omega)]
   by_cases hj:j=k
   ·subst hj;simp [h0,h1]
   by_cases hj0:j=0
   ·simp [hj0];omega
   by_cases hj1:j%2=1
   ·simp [hj0,hj1,hj]
   simp only [hj0,hj1,if_false,hj]
   rw [if_neg (by omega)]
  cases t with
  | lf =>
   refine (key none lf lf).trans ?_
   by_cases hj:j=k
   ·simp [hj]
   rw [if_neg hj,if_neg hj,Qla]
   simp only [get_lf,ite_self]
  | nd v l r=>exact key v l r
theorem get_put (t:Tr α) (k:Nat) (o:Option α) (j:Nat):(t.put k o).get j=if j=k then o else t.get j:=Qh0 o _ t k (Nat.lt_succ_self k) j
noncomputable def ofL (l:List α):Nat->Tr α->Tr α:=List.rec (fun _ t=>t) (fun a _ ih n t=>ih (Nat.succ n) (t.put n (some a))) l
theorem Qmk:∀ (l:List α) (n:Nat) (t:Tr α) (j:Nat),(ofL l n t).get j=if n<=j/\j<n+l.length then l[j-n]? else t.get j
 | [],n,t,j=>by
  show t.get j=_
  rw [if_neg (by simp)]
 | a :: l,n,t,j=>by
  show (ofL l (n+1) (t.put n (some a))).get j=_
  rw [Qmk l (n+1),get_put]
  simp only [List.length_cons]
  by_cases h:n+1<=j/\j<n+1+l.length
  ·rw [if_pos h,if_pos (by omega)]
   rw [show j-n=j-(n+1)+1 by omega,List.getElem?_cons_succ]
  rw [if_neg h]
  by_cases hj:j=n
  ·subst hj;rw [if_pos rfl,if_pos (by omega)];simp
  rw [if_neg hj,if_neg (by omega)]
theorem ofL_get {l:List α} {j:Nat} {a:α} (h:(ofL l 0 lf).get j=some a):l[j]?=some a:=by
 rw [Qmk] at h
 split at h
 ·simpa using h
 cases h
end Tr
inductive AV where
 | any
 | tok (k:Nat)
 | b (x:Bool)
 | i (k:IntKind) (n:Int)
 | s (l:List Nat)
 | p0
 | p (nm off:Nat)
 | sn
 | se
 | sl (nm off len cap:Nat) (ex:Bool)
 | m0
 | m (nm:Nat)
 | f0
 | fn (f:Nat) (caps:List AV)
 | y (nm:Nat)
 | fc (t:Nat) (v:AV)
 | ag (cs:List AV)
 | tu (vs:List AV)
abbrev Sig:=Nat->Option (Nat × Nat)
def byts (l:List Nat):ByteArray:=⟨(l.map UInt8.ofNat).toArray⟩
theorem QfE {v:Value} (h:v.oneCell'=true):v.cells = #[v]:=by cases v<;>first|rfl|cases h
class Tok where
 v:Nat->Value
 I:World->(Nat->Prop)->Prop
variable [Tok]
class Inv (w0:World) (M:Nat->Prop):Prop where
 ok:Tok.I w0 M
mutual
inductive Rel (σ:Sig):AV->Value->Prop where
 | any (v:Value) (h:v.cells = #[v]):Rel σ .any v
 | tok (k:Nat) (h:(Tok.v k).oneCell'=true):Rel σ (.tok k) (Tok.v k)
 | b (x:Bool):Rel σ (.b x) (.bool x)
 | i (k:IntKind) (n:Int):Rel σ (.i k n) (.int k n)
 | s (l:List Nat) (h:∀ x∈l,x<256):Rel σ (.s l) (.string (byts l))
 | p0:Rel σ .p0 (.pointer none)
 | p {nm off b e:Nat} (h:σ nm=some (b,e)):Rel σ (.p nm off) (.pointer (some ⟨b,off,none⟩))
 | sn:Rel σ .sn (.slice none 0 0)
 | se (a:Addr) (c:Nat):Rel σ .se (.slice (some a) 0 c)
 | sl {nm off len cap b e:Nat} {ex:Bool} (h:σ nm=some (b,e)):Rel σ (.sl nm off len cap ex) (.slice (some ⟨b,off,none⟩) len (cap+cond ex e 0))
 | m0:Rel σ .m0 (.map none)
 | m {nm b e:Nat} (h:σ nm=some (b,e)):Rel σ (.m nm) (.map (some b))
 | f0:Rel σ .f0 .nilFunc
 | fn {f:Nat} {caps:List AV} {vs:List Value} (h:RelL σ caps vs):Rel σ (.fn f caps) (.func (.func f) #[] vs.toArray)
 | y {nm b e:Nat} (h:σ nm=some (b,e)):Rel σ (.y nm) (.func (.yield b) #[] #[])
 | fc {t:Nat} {a:AV} {v:Value} (h:Rel σ a v):Rel σ (.fc t a) (.iface t v)
 | ag {cs:List AV} {vs:List Value} (h:RelL σ cs vs):Rel σ (.ag cs) (.agg vs.toArray)
 | tu {cs:List AV} {vs:List Value} (h:RelL σ cs vs):Rel σ (.tu cs) (.tuple vs.toArray)
inductive RelL (σ:Sig):List AV->List Value->Prop where
 | nil:RelL σ [] []
 | cons {a:AV} {v:Value} {l:List AV} {vs:List Value} (h:Rel σ a v) (t:RelL σ l vs):RelL σ (a :: l) (v :: vs)
end
def Le (σ σ':Sig):Prop:=∀ x p,σ x=some p->σ' x=some p
theorem Le.refl (σ:Sig):Le σ σ:=fun _ _ h=>h
theorem Le.trans {σ σ' σ'':Sig} (h:Le σ σ') (h':Le σ' σ''):Le σ σ'':=fun x p e=>h' x p (h x p e)
theorem Rel.mono {σ σ':Sig} (hl:Le σ σ') {a:AV} {v:Value} (h:Rel σ a v):Rel σ' a v :=
 Rel.rec (motive_1:=fun a v _=>Rel σ' a v) (motive_2:=fun l vs _=>RelL σ' l vs)
  .any .tok .b .i .s .p0 (fun h=>.p (hl _ _ h)) .sn .se (fun h=>.sl (hl _ _ h)) .m0 (fun h=>.m (hl _ _ h)) .f0 (fun _ ih=>.fn ih) (fun h=>.y (hl _ _ h)) (fun _ ih=>.fc ih) (fun _ ih=>.ag ih) (fun _ ih=>.tu ih) .nil (fun _ _ ih iht=>.cons ih iht) h
theorem RelL.mono {σ σ':Sig} (hl:Le σ σ'):∀ {l:List AV} {vs:List Value},RelL σ l vs->RelL σ' l vs
 | _,_,.nil=>.nil
 | _,_,.cons h t=>.cons (h.mono hl) (t.mono hl)
theorem RelL.len {σ:Sig}:∀ {l:List AV} {vs:List Value},RelL σ l vs->vs.length=l.length
 | _,_,.nil=>rfl
 | _,_,.cons _ t=>by simp [t.len]
theorem RelL.at {σ:Sig}:∀ {l:List AV} {vs:List Value},RelL σ l vs->∀ {j:Nat} {a:AV},l[j]?=some a->∃ v,vs[j]?=some v/\Rel σ a v
 | _,_,.nil,_,_,hj=>by simp at hj
 | _,_,.cons h t,0,_,hj=>by simp at hj;subst hj;exact ⟨_,by simp,h⟩
 | _,_,.cons h t,j+1,_,hj=>by
  obtain ⟨v,h1,h2⟩:=t.at (j:=j) (by simpa using hj)
  exact ⟨v,by simpa using h1,h2⟩
theorem RelL.app {σ:Sig}:∀ {l m:List AV} {vs us:List Value},RelL σ l vs->RelL σ m us->RelL σ (l++m) (vs++us)
 | _,_,_,_,.nil,h=>h
 | _,_,_,_,.cons h t,h'=>.cons h (t.app h')
theorem RelL.take {σ:Sig}:∀ {l:List AV} {vs:List Value},RelL σ l vs->∀ n,RelL σ (l.take n) (vs.take n)
 | _,_,.nil,n=>by simp;exact .nil
 | _,_,.cons h t,0=>.nil
 | _,_,.cons h t,n+1=>.cons h (t.take n)
theorem RelL.drop {σ:Sig}:∀ {l:List AV} {vs:List Value},RelL σ l vs->∀ n,RelL σ (l.drop n) (vs.drop n)
 | _,_,.nil,n=>by simp;exact .nil
 | _,_,.cons h t,0=>.cons h t
 | _,_,.cons h t,n+1=>t.drop n
theorem RelL.one {σ:Sig} {a:AV} {v:Value} (h:Rel σ a v):RelL σ [a] [v]:=.cons h .nil
theorem RelL.rep {σ:Sig} {a:AV} {v:Value} (h:Rel σ a v):∀ n,RelL σ (List.replicate n a) (List.replicate n v)
 | 0=>.nil
 | n+1=>.cons h (RelL.rep h n)
def AV.cells:AV->List AV
 | .ag cs=>cs
 | a=>[a]
theorem Rel.cells {σ:Sig} {a:AV} {v:Value} (h:Rel σ a v):RelL σ a.cells v.cells.toList:=by
 cases h
 case ag h=>simpa [AV.cells,Value.cells] using h
 case any h=>rw [h];exact RelL.one (.any _ h)
 case tok k h=>rw [QfE h];exact RelL.one (.tok k h)
 all_goals first|exact RelL.one (.b _)|exact RelL.one (.i _ _)|exact RelL.one (.s _ ‹_›)|exact RelL.one .p0|exact RelL.one (.p ‹_›)|exact RelL.one .sn|exact RelL.one (.se _ _)|exact RelL.one (.sl ‹_›)|exact RelL.one .m0|exact RelL.one (.m ‹_›)|exact RelL.one .f0|exact RelL.one (.fn ‹_›)|exact RelL.one (.y ‹_›)|exact RelL.one (.fc ‹_›)|exact RelL.one (.tu ‹_›)
def AV.flat:AV->Bool
 | .ag _=>false
 | .tu _=>false
 | _=>true
def AV.one:AV->Bool
 | .any=>false
 | .ag _=>false
 | .tu _=>false
 | _=>true
theorem Rel.one {σ:Sig} {a:AV} {v:Value} (h:Rel σ a v) (ho:a.one=true):v.oneCell'=true:=by
 cases h<;>first|rfl|assumption|(simp [AV.one] at ho)
theorem RelL.ones {σ:Sig}:∀ {l:List AV} {vs:List Value},RelL σ l vs->l.all AV.one=true->∀ u∈vs,u.oneCell'=true
 | _,_,.nil,_=>by simp
 | _,_,.cons h t,ho=>by
  simp only [List.all_cons,Bool.and_eq_true] at ho
  intro u hu
  rcases List.mem_cons.1 hu with rfl|hu
  ·exact h.one ho.1
  exact t.ones ho.2 u hu
def ofS:Value->Option AV
 | .bool x=>some (.b x)
 | .int k n=>some (.i k n)
 | .string s=>some (.s (s.data.toList.map UInt8.toNat))
 | .pointer none=>some .p0
 | .slice none 0 0=>some .sn
 | .map none=>some .m0
 | .nilFunc=>some .f0
 | _=>none
noncomputable def ofSs (l:List Value):Option (List AV):=List.rec (some []) (fun v _ ih=>(ofS v).bind fun a=>ih.map fun l=>a :: l) l
noncomputable def ofV (v:Value):Option AV :=
 match v with
 | .agg cs=>(ofSs cs.toList).map .ag
 | .tuple cs=>(ofSs cs.toList).map .tu
 | v=>ofS v
theorem Qr2 (s:ByteArray):byts (s.data.toList.map UInt8.toNat)=s:=by
 unfold byts
 rw [List.map_map]
 have:(UInt8.ofNat ∘ UInt8.toNat)=id:=by funext x;simp
 rw [this];simp
theorem Qmv {σ:Sig} {v:Value} {a:AV} (h:ofS v=some a):Rel σ a v:=by
 unfold ofS at h
 split at h
 case h_3 s =>
  cases h
  have:=Rel.s (σ:=σ) (s.data.toList.map UInt8.toNat) (fun x hx=>by
   obtain ⟨y,_,rfl⟩:=List.mem_map.1 hx
   exact UInt8.toNat_lt y)
  rw [Qr2] at this;exact this
 all_goals first|(cases h;first|constructor|skip)|cases h
theorem Qip {σ:Sig}:∀ {vs:List Value} {l:List AV},ofSs vs=some l->RelL σ l vs
 | [],l,h=>by cases h;exact .nil
 | v :: vs,l,h=>by
  have h:((ofS v).bind fun a=>(ofSs vs).map fun l=>a :: l)=some l:=h
  cases h1:ofS v with
  | none=>rw [h1] at h;cases h
  | some a =>
   rw [h1] at h
   cases h2:ofSs vs with
   | none=>rw [h2] at h;cases h
   | some l'=>rw [h2] at h;cases h;exact .cons (Qmv h1) (Qip h2)
theorem Qoj {σ:Sig} {v:Value} {a:AV} (h:ofV v=some a):Rel σ a v:=by
 unfold ofV at h
 split at h
 ·rename_i cs
  cases h1:ofSs cs.toList with
  | none=>rw [h1] at h;cases h
  | some l=>rw [h1] at h;cases h;have:=Rel.ag (Qip (σ:=σ) h1);simpa using this
 ·rename_i cs
  cases h1:ofSs cs.toList with
  | none=>rw [h1] at h;cases h
  | some l=>rw [h1] at h;cases h;have:=Rel.tu (Qip (σ:=σ) h1);simpa using this
 exact Qmv h
end Go.Ce
namespace Go.Ce
open Go.RowKit Go.Vx
variable [Tok]
section
variable {w0 w:World} {M:Nat->Prop} {L L':List Res}
theorem Own.imp (h:Own w0 M w L) (hi:∀ (k:Nat) (R':Res),L'[k]?=some R'->∃ R:Res,L[k]?=some R/\∀ S,R.holds w S->R'.holds w S):Own w0 M w L':=by
 obtain ⟨a,b,c,d,e,S,f,g,i,j⟩:=h
 refine ⟨a,b,c,d,e,S,fun k R' hk=>?_,g,i,j⟩
 obtain ⟨R,h1,h2⟩:=hi k R' hk
 exact h2 _ (f k R h1)
theorem Own.mv (h:Own w0 M w L) {x y:Nat} {R:Res} (hx:L[x]?=some R):Own w0 M w ((L.set x emp).set y R):=by
 obtain ⟨a,b,c,d,e,S,f,g,i,j⟩:=h
 refine ⟨a,b,c,d,e,fun k q=>if k=y then S x q else if k=x then False else S k q,fun k Q hk=>?_,fun k q hq=>?_,fun k k' q hq hq'=>?_,fun k q hq hl=>?_⟩
 ·rw [List.getElem?_set] at hk
  by_cases hky:y=k
  ·subst hky
   simp at hk
   obtain ⟨_,hk⟩:=hk
   subst hk
   show R.holds w (fun q=>if y=y then S x q else if y=x then False else S y q)
   simp only [if_true];exact f x _ hx
  rw [if_neg hky,List.getElem?_set] at hk
  have hky':¬k=y:=fun e=>hky e.symm
  show Q.holds w (fun q=>if k=y then S x q else if k=x then False else S k q)
  simp only [if_neg hky']
  by_cases hkx:x=k
  ·subst hkx
   simp at hk
   obtain ⟨_,hk⟩:=hk
   subst hk
   trivial
  rw [if_neg hkx] at hk
  have hkx':¬k=x:=fun e=>hkx e.symm
  simp only [if_neg hkx']
  exact f k Q hk
 ·dsimp only at hq
  split at hq
  ·exact g _ _ hq
  split at hq
  ·exact hq.elim
  exact g _ _ hq
 ·dsimp only at hq hq'
  split at hq<;>split at hq'
  ·omega
  ·split at hq'
   ·exact hq'.elim
   have:=i _ _ _ hq hq';omega
  ·split at hq
   ·exact hq.elim
   have:=i _ _ _ hq hq';omega
  split at hq
  ·exact hq.elim
  split at hq'
  ·exact hq'.elim
  exact i _ _ _ hq hq'
 dsimp only at hq
 split at hq
 ·exact j _ _ hq hl
 split at hq
 ·exact hq.elim
 exact j _ _ hq hl
theorem Own.allocAt (h:Own w0 M w L) (o:Obj) (R:Res) (hR:R.holds (w.alloc o) (fun b=>b=w.heap.size)) {y:Nat} (hy:y<L.length):Own w0 M (w.alloc o) (L.set y R):=by
 have h1:=Own.mv (h.new o R hR) (x:=L.length) (y:=y) (R:=R) (by simp)
 have h2:=h1.take L.length
 have e:(((L++[R]).set L.length emp).set y R).take L.length=L.set y R:=by
  apply List.ext_getElem?
  intro k
  rw [List.getElem?_take]
  by_cases hk:k<L.length
  ·rw [if_pos hk]
   by_cases hky:y=k
   ·subst hky
    rw [List.getElem?_set_self (by simp;omega),List.getElem?_set_self hy]
   rw [List.getElem?_set_ne hky,List.getElem?_set_ne hky,List.getElem?_set_ne (by omega),List.getElem?_append_left hk]
  rw [if_neg hk,List.getElem?_eq_none (by simp;omega)]
 rw [e] at h2
 exact h2
end
def LH (B:Nat) (f:Nat->Res):List Res:=(List.range B).map f
theorem QhK (B:Nat) (f:Nat->Res):(LH B f).length=B:=by simp [LH]
theorem Qem {B x:Nat} (f:Nat->Res) (h:x<B):(LH B f)[x]?=some (f x):=by simp [LH,h]
theorem Qg3 {B x:Nat} {f:Nat->Res} {R:Res} (h:(LH B f)[x]?=some R):x<B/\R=f x:=by
 have hl:x<B:=by have:=Qav h;rwa [QhK] at this
 rw [Qem f hl] at h
 exact ⟨hl,(Option.some.inj h).symm⟩
theorem Quv {B:Nat} (f:Nat->Res) (x:Nat) (R:Res):(LH B f).set x R=LH B (fun y=>if y=x then R else f y):=by
 apply List.ext_getElem?
 intro k
 by_cases hk:k<B
 ·rw [Qem _ hk,List.getElem?_set]
  by_cases hx:x=k
  ·subst hx;simp [QhK,hk]
  rw [if_neg hx,Qem _ hk,if_neg (fun e=>hx e.symm)]
 rw [List.getElem?_eq_none (by simp [QhK];omega),List.getElem?_eq_none (by simp [QhK];omega)]
inductive AB where
 | row (cs:List AV) (T k:Nat) (ex:Bool)
 | mp (es:List (AV × AV × Nat)) (clock:Nat)
 | it (m:Option Nat) (since:Nat) (seen:List Nat) (last:Nat)
 | lp (n:Nat) (env:Tr AV) (p:Nat) (assign body:Code) (d:Nat) (st:LoopState)
 | df (o:Bool)
 | dead
structure Mem where
 h:Tr AB
 c:Nat
 d:List Nat
inductive RelM (σ:Sig):List (AV × AV × Nat)->List MapEntry->Prop where
 | nil:RelM σ [] []
 | cons {k v:AV} {b:Nat} {kv vv:Value} {l:List (AV × AV × Nat)} {es:List MapEntry} (hk:Rel σ k kv) (hv:Rel σ v vv) (t:RelM σ l es):RelM σ ((k,v,b) :: l) (⟨kv,vv,b⟩ :: es)
def Qgm (σ:Sig) (env:Tr AV) (J:Env):Prop:=∀ t v,env.get t=some v->Rel σ v (J t)
def Qtp (σ:Sig):Option Nat->Option Nat->Prop
 | none,o=>o=none
 | some x,o=>∃ b e,σ x=some (b,e)/\o=some b
def Qfl (σ:Sig):AB->Nat->Obj->Prop
 | .row cs T k ex,e,o=>∃ vs rest,RelL σ cs vs/\rest.length=cond ex (e*k) 0/\o = .cells (vs++rest).toArray T (0,0)
 | .mp es clock,_,o=>∃ ves,RelM σ es ves/\o = .map ves.toArray clock
 | .it m since seen last,_,o=>∃ mb,Qtp σ m mb/\o = .mapIter mb since seen.toArray last
 | .lp n env p assign body d st,_,o=>∃ fn J db de,Qgm σ env J/\σ d=some (db,de)/\o = .loop { QgX fn n J p assign body db with state:=st }
 | .df b,_,o=>o = .deferred (cond b (some []) none)
 | .dead,_,_=>False
theorem RelM.mono {σ σ':Sig} (hl:Le σ σ'):∀ {l:List (AV × AV × Nat)} {es:List MapEntry},RelM σ l es->RelM σ' l es
 | _,_,.nil=>.nil
 | _,_,.cons hk hv t=>.cons (hk.mono hl) (hv.mono hl) (t.mono hl)
theorem Qgm.mono {σ σ':Sig} (hl:Le σ σ') {env:Tr AV} {J:Env} (h:Qgm σ env J):Qgm σ' env J:=fun t v e=>(h t v e).mono hl
theorem Qtp.mono {σ σ':Sig} (hl:Le σ σ'):∀ {m o:Option Nat},Qtp σ m o->Qtp σ' m o
 | none,_,h=>h
 | some _,_,⟨b,e,h,h'⟩=>⟨b,e,hl _ _ h,h'⟩
theorem Qfl.mono {σ σ':Sig} (hl:Le σ σ') {blk:AB} {e:Nat} {o:Obj} (h:Qfl σ blk e o):Qfl σ' blk e o:=by
 cases blk with
 | row cs T k ex=>obtain ⟨vs,rest,h1,h2,h3⟩:=h;exact ⟨vs,rest,h1.mono hl,h2,h3⟩
 | mp es clock=>obtain ⟨ves,h1,h2⟩:=h;exact ⟨ves,h1.mono hl,h2⟩
 | it m since seen last=>obtain ⟨mb,h1,h2⟩:=h;exact ⟨mb,h1.mono hl,h2⟩
 | lp n env p assign body d st=>obtain ⟨fn,J,db,de,h1,h2,h3⟩:=h;exact ⟨fn,J,db,de,h1.mono hl,hl _ _ h2,h3⟩
 | df b=>exact h
 | dead=>exact h
def Qta (σ:Sig) (x:Nat) (blk:AB):Res :=
 ⟨fun w S=>∃ b e o,σ x=some (b,e)/\S b/\w.heap[b]?=some o/\Qfl σ blk e o,fun _ _ _ hw ⟨b,e,o,h1,h2,h3,h4⟩=>⟨b,e,o,h1,h2,(hw b h2).trans h3,h4⟩⟩
def res (σ:Sig) (x:Nat):AB->Res
 | .dead=>emp
 | .row cs T k ex=>Qta σ x (.row cs T k ex)
 | .mp es clock=>Qta σ x (.mp es clock)
 | .it m since seen last=>Qta σ x (.it m since seen last)
 | .lp n env p assign body d st=>Qta σ x (.lp n env p assign body d st)
 | .df b=>Qta σ x (.df b)
def AB.live:AB->Bool
 | .dead=>false
 | _=>true
theorem Qdt (σ:Sig) (x:Nat) {blk:AB} (h:blk.live=true):res σ x blk=Qta σ x blk:=by cases blk<;>first|rfl|(simp [AB.live] at h)
theorem QkL {σ σ':Sig} (hl:Le σ σ') {x:Nat} {blk:AB} {w:World} {S:Nat->Prop} (h:(res σ x blk).holds w S):(res σ' x blk).holds w S:=by
 by_cases hb:blk.live=true
 ·rw [Qdt _ _ hb] at h ⊢
  obtain ⟨b,e,o,h1,h2,h3,h4⟩:=h
  exact ⟨b,e,o,hl _ _ h1,h2,h3,h4.mono hl⟩
 cases blk<;>first|(exact absurd rfl hb)|trivial
abbrev Hp:=Nat->Option AB
def Hp.put (h:Hp) (x:Nat) (blk:AB):Hp:=fun y=>if y=x then some blk else h y
def Qeq (σ:Sig) (fr:Nat->Res) (h:Hp) (x:Nat):Res:=match h x with|some blk=>res σ x blk|none=>fr x
structure Good (B:Nat) (w0:World) (M:Nat->Prop) (σ:Sig) (fr:Nat->Res) (h:Hp) (w:World):Prop where
 own:Own w0 M w (LH B (Qeq σ fr h))
 bd:∀ x blk,h x=some blk->x<B
def Sig.up (σ:Sig) (x b e:Nat):Sig:=fun y=>if y=x then some (b,e) else σ y
theorem Sig.le_up {σ:Sig} {x b e:Nat} (h:σ x=none):Le σ (σ.up x b e):=fun y p hy=>by
 unfold Sig.up
 rw [if_neg (fun e=>by subst e;rw [h] at hy;cases hy)]
 exact hy
theorem Sig.up_self {σ:Sig} {x b e:Nat}:σ.up x b e x=some (b,e):=if_pos rfl
section
variable {B:Nat} {w0 w w':World} {M:Nat->Prop} {σ σ':Sig} {fr:Nat->Res} {h:Hp}
theorem Good.mono (hg:Good B w0 M σ fr h w) (hl:Le σ σ'):Good B w0 M σ' fr h w:=by
 refine ⟨Own.imp hg.own fun k R' hk=>?_,hg.bd⟩
 obtain ⟨hl',e⟩:=Qg3 hk
 refine ⟨_,Qem _ hl',fun S hS=>?_⟩
 subst e
 unfold Qeq at hS ⊢
 split
 ·rename_i blk hb
  rw [hb] at hS
  exact QkL hl hS
 rename_i hb
 rw [hb] at hS
 exact hS
theorem Good.drew (hg:Good B w0 M σ fr h w):Good B w0 M σ fr h w.drew:=⟨hg.own.drew,hg.bd⟩
theorem Good.block (hg:Good B w0 M σ fr h w) {x:Nat} {blk:AB} (hx:h x=some blk) (hb:blk.live=true):∃ b e o,σ x=some (b,e)/\w.heap[b]?=some o/\Qfl σ blk e o:=by
 obtain ⟨S,hS,_⟩:=hg.own.get x (Qem _ (hg.bd x blk hx))
 unfold Qeq at hS
 rw [hx] at hS
 dsimp only at hS
 rw [Qdt _ _ hb] at hS
 obtain ⟨b,e,o,h1,_,h3,h4⟩:=hS
 exact ⟨b,e,o,h1,h3,h4⟩
theorem QlB (x:Nat) (blk:AB) (y:Nat):Qeq σ fr (h.put x blk) y=if y=x then res σ x blk else Qeq σ fr h y:=by
 unfold Qeq Hp.put
 by_cases hy:y=x
 ·subst hy;simp
 simp [hy]
theorem Qjm (x:Nat) (blk:AB):LH B (Qeq σ fr (h.put x blk))=(LH B (Qeq σ fr h)).set x (res σ x blk):=by
 rw [Quv]
 congr 1
 funext y
 exact QlB x blk y
theorem Good.put (hg:Good B w0 M σ fr h w) {x b e:Nat} {blk blk':AB} {o':Obj} (hx:h x=some blk) (hb:blk.live=true) (hb':blk'.live=true) (hσ:σ x=some (b,e)) (ho':Qfl σ blk' e o')
  (hsz:w'.heap.size=w.heap.size) (hos:w'.os=w.os) (ht:w'.tape=w.tape) (ho:w'.output=w.output) (hne:∀ c,c≠b->w'.heap[c]?=w.heap[c]?) (hat:w'.heap[b]?=some o') (hd:w.drawn<=w'.drawn:=by exact Nat.le_refl _) :
  Good B w0 M σ fr (h.put x blk') w':=by
 have hxB:=hg.bd x blk hx
 refine ⟨?_,fun y blk'' hy=>?_⟩
 ·rw [Qjm]
  refine hg.own.change x (b:=b) (Qem _ hxB) hsz hos ht ho hne (fun S hS=>?_) hd
  unfold Qeq at hS
  rw [hx] at hS
  dsimp only at hS
  rw [Qdt _ _ hb] at hS
  obtain ⟨b1,e1,o1,h1,h2,h3,h4⟩:=hS
  rw [hσ] at h1
  cases h1
  rw [Qdt _ _ hb']
  exact ⟨h2,b,e,o',hσ,h2,hat,ho'⟩
 unfold Hp.put at hy
 split at hy
 ·rename_i e;subst e;exact hxB
 exact hg.bd y blk'' hy
theorem Good.kill (hg:Good B w0 M σ fr h w) {x:Nat} {blk:AB} (hx:h x=some blk):Good B w0 M σ fr (h.put x .dead) w:=by
 have hxB:=hg.bd x blk hx
 refine ⟨?_,fun y blk'' hy=>?_⟩
 ·rw [Qjm]
  exact hg.own.drop1 x
 unfold Hp.put at hy
 split at hy
 ·rename_i e;subst e;exact hxB
 exact hg.bd y blk'' hy
theorem Good.new (hg:Good B w0 M σ fr h w) {x e:Nat} {blk:AB} {o:Obj} (hB:x<B) (hσ:σ x=none) (hx:h x=none) (hf:fr x=emp) (hb:blk.live=true) (ho:Qfl (σ.up x w.heap.size e) blk e o) :
  Good B w0 M (σ.up x w.heap.size e) fr (h.put x blk) (w.alloc o):=by
 have hg':=hg.mono (Sig.le_up (b:=w.heap.size) (e:=e) hσ)
 refine ⟨?_,fun y blk'' hy=>?_⟩
 ·rw [Qjm]
  refine Own.allocAt hg'.own o _ ?_ (by rw [QhK];exact hB)
  rw [Qdt _ _ hb]
  exact ⟨w.heap.size,e,o,Sig.up_self,rfl,_root_.Go.heap_alloc_new w _,ho⟩
 unfold Hp.put at hy
 split at hy
 ·rename_i e;subst e;exact hB
 exact hg.bd y blk'' hy
theorem Good.move (hg:Good B w0 M σ fr h w) {x y b e e':Nat} {blk blk':AB} {o':Obj} (hx:h x=some blk) (hb:blk.live=true) (hb':blk'.live=true) (hσ:σ x=some (b,e)) (hB:y<B) (hy:σ y=none) (hhy:h y=none) (hfy:fr y=emp)
  (ho':Qfl (σ.up y b e') blk' e' o')
  (hsz:w'.heap.size=w.heap.size) (hos:w'.os=w.os) (ht:w'.tape=w.tape) (ho:w'.output=w.output) (hne:∀ c,c≠b->w'.heap[c]?=w.heap[c]?) (hat:w'.heap[b]?=some o') (hd:w.drawn<=w'.drawn:=by exact Nat.le_refl _) :
  Good B w0 M (σ.up y b e') fr ((h.put x .dead).put y blk') w':=by
 have hxB:=hg.bd x blk hx
 have hg':=hg.mono (Sig.le_up (b:=b) (e:=e') hy)
 have hxy:x≠y:=fun e=>by subst e;rw [hhy] at hx;cases hx
 refine ⟨?_,fun z blk'' hz=>?_⟩
 ·rw [Qjm,Qjm]
  have h1:=hg'.own.change x (b:=b) (R':=res (σ.up y b e') y blk') (w':=w') (Qem _ hxB) hsz hos ht ho hne (fun S hS=>?_) hd
  ·have h2:=Own.mv h1 (x:=x) (y:=y) (by rw [List.getElem?_set_self (by rw [QhK];exact hxB)])
   rw [List.set_set] at h2
   exact h2
  unfold Qeq at hS
  rw [hx] at hS
  dsimp only at hS
  rw [Qdt _ _ hb] at hS
  obtain ⟨b1,e1,o1,h1,h2,h3,h4⟩:=hS
  rw [Sig.le_up hy _ _ hσ] at h1
  cases h1
  rw [Qdt _ _ hb']
  exact ⟨h2,b,e',o',Sig.up_self,h2,hat,ho'⟩
 unfold Hp.put at hz
 split at hz
 ·rename_i e;subst e;exact hB
 split at hz
 ·rename_i e;subst e;exact hxB
 exact hg.bd z blk'' hz
def Fresh (c hi:Nat) (σ:Sig) (fr:Nat->Res) (h:Hp):Prop:=∀ x,c<=x->x<hi->σ x=none/\fr x=emp/\h x=none
structure MLe (m m':Mem):Prop where
 c:m.c<=m'.c
 d:∀ x,x∈m.d->x∈m'.d
 up:∀ x,m'.c<=x->m'.h.get x=m.h.get x
 old:∀ x,x<m.c->x ∉ m'.d->m'.h.get x=m.h.get x
theorem MLe.refl (m:Mem):MLe m m:=⟨Nat.le_refl _,fun _ h=>h,fun _ _=>rfl,fun _ _ _=>rfl⟩
theorem MLe.trans {m m' m'':Mem} (h:MLe m m') (h':MLe m' m''):MLe m m'' :=
 ⟨Nat.le_trans h.c h'.c,fun x hx=>h'.d x (h.d x hx),fun x hx=>(h'.up x hx).trans (h.up x (Nat.le_trans h'.c hx)),fun x hx hd=>(h'.old x (Nat.lt_of_lt_of_le hx h.c) hd).trans (h.old x hx fun q=>hd (h'.d x q))⟩
structure SLe (c c':Nat) (σ σ':Sig):Prop where
 le:Le σ σ'
 out:∀ x,σ x=none->(x<c∨c'<=x)->σ' x=none
theorem SLe.refl (c c':Nat) (σ:Sig):SLe c c' σ σ:=⟨Le.refl σ,fun _ h _=>h⟩
theorem SLe.trans {c c' c'':Nat} {σ σ' σ'':Sig} (h:SLe c c' σ σ') (h':SLe c' c'' σ' σ'') (h1:c<=c') (h2:c'<=c''):SLe c c'' σ σ'' :=
 ⟨h.le.trans h'.le,fun x hx hr=>h'.out x (h.out x hx (by omega)) (by omega)⟩
theorem Fresh.next {hi:Nat} {m m':Mem} (hf:Fresh m.c hi σ fr m.h.get) (hs:SLe m.c m'.c σ σ') (hm:MLe m m'):Fresh m'.c hi σ' fr m'.h.get:=fun x h1 h2=>by
 obtain ⟨a,b,c⟩:=hf x (Nat.le_trans hm.c h1) h2
 exact ⟨hs.out x a (.inr h1),b,(hm.up x h1).trans c⟩
theorem QbO (h:Tr AB) (x:Nat) (blk:AB):(h.put x (some blk)).get=Hp.put h.get x blk:=funext fun y=>Tr.get_put h x _ y
noncomputable def Mem.new (m:Mem) (blk:AB):Mem:=⟨m.h.put m.c (some blk),Nat.succ m.c,m.d⟩
noncomputable def Mem.set (m:Mem) (x:Nat) (blk:AB):Mem:=⟨m.h.put x (some blk),m.c,x :: m.d⟩
theorem MLe.new (m:Mem) (blk:AB):MLe m (m.new blk) :=
 ⟨Nat.le_succ _,fun _ h=>h,fun x hx=>by
  show (m.h.put m.c (some blk)).get x=_
  rw [Tr.get_put,if_neg]
  have:m.c+1<=x:=hx
  omega,fun x hx _=>by
  show (m.h.put m.c (some blk)).get x=_
  rw [Tr.get_put,if_neg (by omega)]⟩
theorem MLe.set {m:Mem} {x:Nat} (blk:AB) (hx:x<m.c):MLe m (m.set x blk) :=
 ⟨Nat.le_refl _,fun _ h=>List.mem_cons_of_mem _ h,fun y hy=>by
  show (m.h.put x (some blk)).get y=_
  rw [Tr.get_put,if_neg]
  have:m.c<=y:=hy
  omega,fun y _ hd=>by
  show (m.h.put x (some blk)).get y=_
  rw [Tr.get_put,if_neg]
  intro e;subst e
  exact hd List.mem_cons_self⟩
theorem SLe.new {c:Nat} {x b e:Nat} (hσ:σ x=none) (h:c<=x):SLe c (Nat.succ x) σ (σ.up x b e) :=
 ⟨Sig.le_up hσ,fun y hy hr=>by
  unfold Sig.up
  rw [if_neg (by rcases hr with h|h;omega;have:x+1<=y:=h;omega)]
  exact hy⟩
end
end Go.Ce
namespace Go.Ce
open Go.RowKit Go.Vx
structure TokT where
 ix:Nat->Nat->Option Nat
 ld:Nat->Option Nat
 sl:Nat->Nat->Option Nat
 cv:Nat->IntKind->Option Nat
 cp:Nat->Nat->Option (List Nat)
def QsZ:TokT:=⟨fun _ _=>none,fun _=>none,fun _ _=>none,fun _ _=>none,fun _ _=>none⟩
structure Cfg where
 info:Nat->Option TypeInfo
 fn:Nat->Option Func
 eqs:Nat->Option (List Nat)
 hk:Nat->List AV->Mem->Option (List (AV × Mem))
 bop:BinOp->Nat->IntKind->Int->Option AV
 tlen:Nat->Option AV
 tk:TokT
 kys:Nat->Bool
def lim:IntKind->Nat
 | .i8=>128|.u8=>256|.i16=>32768|.u16=>65536|.i32=>2147483648|.u32=>4294967296|.i64=>9223372036854775808|.u64=>18446744073709551616
def kd:IntKind->Nat
 | .i8=>0|.u8=>1|.i16=>2|.u16=>3|.i32=>4|.u32=>5|.i64=>6|.u64=>7
def shp:AV->Nat
 | .i k _=>kd k
 | .b _=>8
 | _=>9
theorem Qg1 {j k:IntKind} (h:kd j=kd k):j=k:=by cases j<;>cases k<;>first|rfl|cases h
noncomputable def wrA (k:IntKind) (n:Int):Int:=Int.casesOn n (fun m=>cond (Nat.blt m (lim k)) (Int.ofNat m) (k.wrap (Int.ofNat m))) (fun m=>k.wrap (Int.negSucc m))
theorem Qb9 {k:IntKind} {m:Nat} (h:m<lim k):k.wrap (Int.ofNat m)=Int.ofNat m:=by
 cases k<;>simp only [lim] at h<;>simp only [IntKind.wrap,IntKind.bits,IntKind.signed,Int.ofNat_eq_natCast]<;>simp<;>omega
theorem QgP (k:IntKind) (n:Int):wrA k n=k.wrap n:=by
 cases n with
 | ofNat m =>
  show cond (Nat.blt m (lim k)) (Int.ofNat m) (k.wrap (Int.ofNat m))=_
  rw [Qbg]
  by_cases h:m<lim k
  ·simp only [h,decide_true,cond_true];exact (Qb9 h).symm
  simp only [h,decide_false,cond_false]
 | negSucc m=>rfl
noncomputable def ltI (a b:Int):Bool:=Int.casesOn (Int.sub b a) (fun n=>Nat.blt 0 n) (fun _=>false)
noncomputable def eqI (a b:Int):Bool:=Int.casesOn (Int.sub a b) (fun n=>Nat.beq n 0) (fun _=>false)
theorem QfL (a b:Int):ltI a b=decide (a<b):=by
 unfold ltI
 have e:Int.sub b a=b-a:=rfl
 rw [e]
 cases h:b-a with
 | ofNat n =>
  show Nat.blt 0 n=_
  rw [Qbg,decide_eq_decide]
  have h:b-a=(n:Int):=h
  omega
 | negSucc n =>
  show false=_
  have h:b-a = -((n:Int)+1):=by rw [h];rfl
  symm;rw [decide_eq_false_iff_not];omega
theorem QdA (a b:Int):eqI a b=decide (a=b):=by
 unfold eqI
 have e:Int.sub a b=a-b:=rfl
 rw [e]
 cases h:a-b with
 | ofNat n =>
  show Nat.beq n 0=_
  rw [QbT,decide_eq_decide]
  have h:a-b=(n:Int):=h
  omega
 | negSucc n =>
  show false=_
  have h:a-b = -((n:Int)+1):=by rw [h];rfl
  symm;rw [decide_eq_false_iff_not];omega
noncomputable def natI (a:Int):Option Nat:=Int.casesOn a (fun n=>some n) (fun _=>none)
theorem Qcn {a:Int} {n:Nat} (h:natI a=some n):a=(n:Int):=by
 cases a with
 | ofNat m=>cases h;rfl
 | negSucc m=>cases h
noncomputable def bitA (op:BinOp) (k:IntKind) (a b:Int):Option Int :=
 (natI a).bind fun x=>(natI b).bind fun y=>cond (Nat.blt x (lim k)&&Nat.blt y (lim k))
  (match op with
   | .and=>some (Int.ofNat (Nat.land x y))
   | .or=>some (Int.ofNat (Nat.lor x y))
   | .xor=>some (Int.ofNat (Nat.xor x y))
   | _=>none) none
noncomputable def bitX (k:IntKind) (a:Int):Option AV:=(natI a).bind fun x=>cond (Nat.blt x (lim k)) (some (.i k (Int.ofNat (Nat.sub (Nat.sub (lim k) 1) x)))) none
noncomputable def intA (op:BinOp) (k:IntKind) (a b:Int):Option AV :=
 match op with
 | .add=>some (.i k (wrA k (Int.add a b)))
 | .sub=>some (.i k (wrA k (Int.sub a b)))
 | .mul=>some (.i k (wrA k (Int.mul a b)))
 | .quo=>cond (eqI b 0) none (some (.i k (wrA k (Int.tdiv a b))))
 | .rem=>cond (eqI b 0) none (some (.i k (Int.tmod a b)))
 | .eql=>some (.b (eqI a b))
 | .neq=>some (.b (!eqI a b))
 | .lss=>some (.b (ltI a b))
 | .leq=>some (.b (!ltI b a))
 | .gtr=>some (.b (ltI b a))
 | .geq=>some (.b (!ltI a b))
 | op=>(bitA op k a b).map (.i k)
noncomputable def beqL:List Nat->List Nat->Bool :=
 List.rec (fun m=>List.casesOn m true (fun _ _=>false)) (fun a _ ih m=>List.casesOn m false (fun b m=>Nat.beq a b&&ih m))
theorem Qey:∀ l m:List Nat,beqL l m=decide (l=m)
 | [],[]=>by rfl
 | [],_ :: _=>by rfl
 | _ :: _,[]=>by rfl
 | a :: l,b :: m=>by
  show (Nat.beq a b&&beqL l m)=_
  rw [Qey l m,QbT]
  by_cases h:a=b<;>by_cases h':l=m<;>simp [h,h']
noncomputable def ltL:List Nat->List Nat->Bool :=
 List.rec (fun m=>List.casesOn m false (fun _ _=>true)) (fun a _ ih m=>List.casesOn m false (fun b m=>cond (Nat.blt a b) true (cond (Nat.beq a b) (ih m) false)))
noncomputable def beqS (a b:AV):Option Bool :=
 match a,b with
 | .i j x,.i k y=>cond (Nat.beq (kd j) (kd k)) (some (eqI x y)) none
 | .b x,.b y=>some (x == y)
 | .s x,.s y=>some (beqL x y)
 | _,_=>none
noncomputable def beqC:List AV->List AV->Option Bool :=
 List.rec (fun m=>List.casesOn m (some true) (fun _ _=>none)) (fun a _ ih m=>List.casesOn m none (fun b m=>(beqS a b).bind fun x=>(ih m).map fun y=>x&&y))
def QuU (d:TypeDesc) (a b:AV):Option Bool :=
 match d with
 | .pointer _=>(match b with|.p0=>(match a with|.p0=>some true|.p _ _=>some false|_=>none)|_=>none)
 | .map _ _=>(match b with|.m0=>(match a with|.m0=>some true|.m _=>some false|_=>none)|_=>none)
 | .slice _=>(match b with|.sn=>(match a with|.sn=>some true|.se=>some false|.sl _ _ _ _ _=>some false|_=>none)|_=>none)
 | _=>none
section
variable (C:Cfg)
noncomputable def und (t:Nat):Option TypeDesc :=
 match C.info t with
 | some i=>(match i.desc with|.named _ u=>(C.info u).map TypeInfo.desc|d=>some d)
 | none=>none
noncomputable def szA (t:Nat):Option Nat:=(C.info t).map TypeInfo.size
def Qwx:TypeDesc->Bool
 | .struct _=>true
 | .array _ _=>true
 | _=>false
noncomputable def aggA (t:Nat):Option Bool:=(und C t).map Qwx
noncomputable def zeroA (t:Nat):Option AV:=(C.info t).bind fun i=>i.zero.bind ofV
noncomputable def fieldA (s f:Nat):Option Field :=
 match und C s with
 | some (.struct fs)=>fs.toList[f]?
 | _=>none
noncomputable def aev (n:Nat) (env:Tr AV) (x:Operand):Option AV :=
 match x with
 | .tmp t=>cond (Nat.blt t n) (env.get t) none
 | .const v=>ofV v
 | .func f=>some (.fn f [])
 | .global g=>cond (Nat.blt g 64) (some (.p g 0)) none
noncomputable def aevs (n:Nat) (env:Tr AV):List Operand->Option (List AV) :=
 List.rec (some []) (fun x _ ih=>(aev n env x).bind fun a=>ih.map fun l=>a :: l)
noncomputable def aevp (n:Nat) (env:Tr AV):List (Nat × Operand)->Option (List (Nat × AV)) :=
 List.rec (some []) (fun x _ ih=>(aev n env x.2).bind fun a=>ih.map fun l=>(x.1,a) :: l)
noncomputable def eqA (op:BinOp) (r:Bool):Option AV :=
 match op with
 | .eql=>some (.b r)
 | .neq=>some (.b (!r))
 | _=>none
noncomputable def binA (op:BinOp) (t:Nat) (x y:AV):Option AV :=
 match x,y with
 | .i j a,.i k b =>
  match op with
  | .shl=>(natI b).bind fun y=>cond (Nat.ble y j.bits) (some (.i j (wrA j (Int.mul a (Int.ofNat (Nat.pow 2 y)))))) none
  | .shr=>(natI b).bind fun y=>(natI a).bind fun x=>cond (Nat.ble y j.bits) (some (.i j (Int.ofNat (Nat.shiftRight x y)))) none
  | op=>cond (Nat.beq (kd j) (kd k)) (intA op j a b) none
 | .tok k,.i j b=>C.bop op k j b
 | .s a,.s b =>
  match op with
  | .add=>cond (Nat.ble (a.length+b.length) 1000000) (some (.s (a++b))) none
  | .lss=>some (.b (ltL a b))
  | .eql=>some (.b (beqL a b))
  | .neq=>some (.b (!beqL a b))
  | _=>none
 | .b a,.b b=>(match und C t with|some .bool=>eqA op (a == b)|_=>none)
 | .ag a,.ag b=>(C.eqs t).bind fun sh=>cond (beqL (a.map shp) sh&&beqL (b.map shp) sh) ((beqC a b).bind (eqA op)) none
 | a,b=>(und C t).bind fun d=>(QuU d a b).bind (eqA op)
noncomputable def partA (t:Nat) (cs:List AV) (off:Nat):Option AV :=
 (szA C t).bind fun k=>(aggA C t).bind fun g=>cond g (some (.ag ((cs.drop off).take k))) cs[off]?
noncomputable def loadA (m:Mem) (t nm off:Nat):Option AV :=
 match m.h.get nm with
 | some (.row cs _ _ _)=>(szA C t).bind fun k=>(aggA C t).bind fun g=>cond g (cond (Nat.ble (off+k) cs.length) (some (.ag ((cs.drop off).take k))) none) cs[off]?
 | _=>none
noncomputable def rowA (m:Mem) (k:Nat) (v:AV):Option (List AV) :=
 match v with
 | .sn=>some []
 | .se=>some []
 | .sl nm off len _ _ =>
  match m.h.get nm with
  | some (.row cs _ _ _)=>cond (Nat.ble (off+len*k) cs.length) (some ((cs.drop off).take (len*k))) none
  | _=>none
 | _=>none
noncomputable def optI (n:Nat) (env:Tr AV) (x:Option Operand) (d:Nat):Option Nat :=
 match x with
 | none=>some d
 | some x=>(match aev n env x with|some (.i _ j)=>natI j|_=>none)
noncomputable def sliceA (n:Nat) (env:Tr AV) (t:Nat) (x:AV) (lo hi mx:Option Operand):Option AV :=
 match x,und C t with
 | .s l,some .string =>
  (match mx with
   | none=>(optI n env hi l.length).bind fun h=>cond (Nat.ble h l.length) ((optI n env lo 0).bind fun a=>cond (Nat.ble a h) (some (.s ((l.drop a).take (h-a)))) none) none
   | some _=>none)
 | .p nm off,some (.array len el) =>
  (match mx with
   | none=>(optI n env hi len).bind fun h=>cond (Nat.ble h len) ((optI n env lo 0).bind fun a=>cond (Nat.ble a h)
     ((szA C el).map fun k=>.sl nm (cond (Nat.beq len a) off (off+a*k)) (h-a) (len-a) false) none) none
   | some _=>none)
 | v,some (.slice el)=>(szA C el).bind fun k=>cond (mx.isNone||hi.isSome) (match v with
   | .sl nm off len cap ex=>(optI n env mx cap).bind fun q=>cond (Nat.ble q cap) ((optI n env hi len).bind fun h=>cond (Nat.ble h q) ((optI n env lo 0).bind fun a=>cond (Nat.ble a h)
     (cond (Nat.beq q a) (cond (ex&&mx.isNone) (some .se) (some (.sl nm off 0 0 false))) (some (.sl nm (off+a*k) (h-a) (q-a) (ex&&mx.isNone)))) none) none) none
   | .se=>(optI n env mx 0).bind fun q=>cond (Nat.beq q 0) ((optI n env hi 0).bind fun h=>cond (Nat.beq h 0) ((optI n env lo 0).bind fun a=>cond (Nat.beq a 0) (some .se) none) none) none
   | .sn=>(optI n env mx 0).bind fun q=>cond (Nat.beq q 0) ((optI n env hi 0).bind fun h=>cond (Nat.beq h 0) ((optI n env lo 0).bind fun a=>cond (Nat.beq a 0) (some .sn) none) none) none
   | .tok q=>cond (Nat.beq k 1&&hi.isNone&&mx.isNone) ((optI n env lo 0).bind fun a=>(C.tk.sl q a).map AV.tok) none
   | _=>none) none
 | _,_=>none
noncomputable def lenA (m:Mem) (x:AV):Option Nat :=
 match x with
 | .s l=>some l.length
 | .sn=>some 0
 | .se=>some 0
 | .m0=>some 0
 | .sl _ _ len _ _=>some len
 | .m nm=>(match m.h.get nm with|some (.mp es _)=>some es.length|_=>none)
 | _=>none
def Qgk (d:Option TypeDesc) (k:AV):Bool :=
 match k with
 | .i _ _=>(match d with|some (.int _)=>true|_=>false)
 | .s _=>(match d with|some .string=>true|_=>false)
 | _=>false
noncomputable def findA (k:AV) (es:List (AV × AV × Nat)):Nat->Option (Option (Nat × AV × Nat)) :=
 List.rec (fun _=>some none) (fun e _ ih i=>(beqS k e.1).bind fun q=>cond q (some (some (i,e.2))) (ih (Nat.succ i))) es
noncomputable def isD (a:AV):Bool:=match a with|.ag [.i j _,.i k _]=>Nat.beq (kd j) 1&&Nat.beq (kd k) 5|_=>false
noncomputable def eqD (a b:AV):Bool:=match a,b with|.ag [.i _ x,.i _ y],.ag [.i _ x',.i _ y']=>eqI x x'&&eqI y y'|_,_=>false
noncomputable def findD (k:AV) (es:List (AV × AV × Nat)):Nat->Option (Nat × AV × Nat) :=
 List.rec (fun _=>none) (fun e _ ih i=>cond (eqD k e.1) (some (i,e.2)) (ih (Nat.succ i))) es
noncomputable def findK (k:AV) (es:List (AV × AV × Nat)):Option (Option (Nat × AV × Nat)) :=
 match k with
 | .ag _=>cond (es.all fun e=>isD e.1) (some (findD k es 0)) none
 | k=>findA k es 0
noncomputable def keyK (kt:Nat) (k:AV):Bool :=
 match k with
 | .ag _=>C.kys kt&&isD k
 | k=>Qgk (und C kt) k
noncomputable def fillA (pl:Nat->Option (Nat × Nat)) (cs:List AV) (vs:List (Nat × AV)):Option (List AV) :=
 List.rec (fun cs=>some cs) (fun v _ ih cs=>(pl v.1).bind fun p=>cond (Nat.beq v.2.cells.length p.2&&Nat.ble (p.1+p.2) cs.length) (ih (cs.take p.1++v.2.cells++cs.drop (p.1+p.2))) none) vs cs
noncomputable def placesA:List Field->Option (List (Nat × Nat)):=List.rec (some []) (fun f _ ih=>(szA C f.type).bind fun k=>ih.map fun l=>(f.offset,k) :: l)
noncomputable def buildA (t:Nat) (vs:List (Nat × AV)):Option AV :=
 (zeroA C t).bind fun z =>
  match und C t with
  | some (.struct fs)=>(placesA C fs.toList).bind fun pl=>(fillA (fun i=>pl[i]?) z.cells vs).map .ag
  | some (.array _ el)=>(szA C el).bind fun k=>(fillA (fun i=>some (i*k,k)) z.cells vs).map .ag
  | _=>none
noncomputable def o_pick (n:Nat) (env:Tr AV) (c a b:Operand):Option AV :=
 match aev n env c with
 | some (.b t)=>cond t (aev n env a) (aev n env b)
 | _=>none
noncomputable def o_bin (n:Nat) (env:Tr AV) (op:BinOp) (t:Nat) (x y:Operand):Option AV:=(aev n env x).bind fun a=>(aev n env y).bind fun b=>binA C op t a b
noncomputable def o_un (n:Nat) (env:Tr AV) (u:UnOp) (x:Operand):Option AV :=
 match aev n env x with
 | some (.b t)=>(match u with|.not=>some (.b (!t))|_=>none)
 | some (.i k a)=>(match u with|.neg=>some (.i k (wrA k (Int.sub 0 a)))|.xor=>cond k.signed none (bitX k a)|_=>none)
 | _=>none
noncomputable def o_conv (n:Nat) (env:Tr AV) (s d:Nat) (x:Operand):Option AV :=
 match aev n env x with
 | some (.i _ a)=>(match und C d with|some (.int k)=>cond (und C s).isSome (some (.i k (wrA k a))) none|_=>none)
 | some (.tok q)=>(match und C d with|some (.int k)=>cond (und C s).isSome ((C.tk.cv q k).map AV.tok) none|_=>none)
 | some .sn=>(match und C d with
   | some .string=>(match und C s with|some (.slice el)=>(match und C el with|some (.int .u8)=>some (.s [])|_=>none)|_=>none)
   | _=>none)
 | _=>none
noncomputable def o_fa (n:Nat) (env:Tr AV) (s:Nat) (x:Operand) (f:Nat):Option AV :=
 match aev n env x with
 | some (.p nm off)=>(fieldA C s f).bind fun fd=>(szA C fd.type).bind fun k=>cond (Nat.beq k 0) none (some (.p nm (off+fd.offset)))
 | _=>none
noncomputable def o_field (n:Nat) (env:Tr AV) (t:Nat) (x:Operand) (f:Nat):Option AV :=
 match aev n env x with
 | some (.ag cs)=>(fieldA C t f).bind fun fd=>partA C fd.type cs fd.offset
 | _=>none
noncomputable def o_ia (n:Nat) (env:Tr AV) (t:Nat) (x ix:Operand):Option AV :=
 match aev n env ix with
 | some (.i _ j)=>(natI j).bind fun j=>(match aev n env x with
   | some (.p nm off)=>(match und C t with|some (.array len el)=>cond (Nat.blt j len) ((szA C el).map fun k=>.p nm (off+j*k)) none|_=>none)
   | some (.sl nm off len _ _)=>(match und C t with|some (.slice el)=>cond (Nat.blt j len) ((szA C el).map fun k=>.p nm (off+j*k)) none|_=>none)
   | some (.tok q)=>(match und C t with|some (.slice el)=>(szA C el).bind fun k=>cond (Nat.beq k 1) ((C.tk.ix q j).map AV.tok) none|_=>none)
   | _=>none)
 | _=>none
noncomputable def o_ix (n:Nat) (env:Tr AV) (t:Nat) (x ix:Operand):Option AV :=
 match aev n env ix with
 | some (.i _ j)=>(natI j).bind fun j=>(match aev n env x with
   | some (.ag cs)=>(match und C t with|some (.array len el)=>cond (Nat.blt j len) ((szA C el).bind fun k=>partA C el cs (j*k)) none|_=>none)
   | some (.s l)=>(match und C t with|some .string=>(l[j]?).bind fun c=>cond (Nat.blt c 256) (some (.i .u8 (Int.ofNat c))) none|_=>none)
   | _=>none)
 | _=>none
noncomputable def o_load (n:Nat) (env:Tr AV) (m:Mem) (t:Nat) (x:Operand):Option AV :=
 match aev n env x with
 | some (.p nm off)=>loadA C m t nm off
 | some (.tok q)=>(aggA C t).bind fun g=>cond g none ((C.tk.ld q).map AV.tok)
 | _=>none
noncomputable def o_nil (n:Nat) (env:Tr AV) (x:Operand):Option AV :=
 match aev n env x with
 | some (.p nm off)=>some (.p nm off)
 | some (.fn f c)=>some (.fn f c)
 | some (.y l)=>some (.y l)
 | _=>none
noncomputable def o_ext (n:Nat) (env:Tr AV) (x:Operand) (i:Nat):Option AV :=
 match aev n env x with
 | some (.tu vs)=>vs[i]?
 | _=>none
noncomputable def o_mf (n:Nat) (env:Tr AV) (f:Fn) (first caps:Array Operand):Option AV :=
 match f with
 | .func f=>cond (Nat.beq first.toList.length 0) ((aevs n env caps.toList).map (.fn f)) none
 | _=>none
noncomputable def o_mi (n:Nat) (env:Tr AV) (t:Nat) (x:Operand):Option AV :=
 match und C t with
 | some (.interface _)=>none
 | some _=>(aev n env x).map (.fc t)
 | none=>none
noncomputable def o_ta (n:Nat) (env:Tr AV) (x:Operand) (t:Nat) (ok:Bool):Option AV :=
 match aev n env x with
 | some (.fc u v)=>(match und C t with
   | some (.interface _)=>none
   | some _=>cond (Nat.beq u t&&!ok) (some v) none
   | none=>none)
 | _=>none
noncomputable def o_sap (n:Nat) (env:Tr AV) (t:Nat) (x:Operand):Option AV :=
 match aev n env x with
 | some (.sl nm off len _ _)=>(match und C t with|some (.array k _)=>cond (Nat.ble k len) (some (.p nm off)) none|_=>none)
 | _=>none
noncomputable def o_look (n:Nat) (env:Tr AV) (m:Mem) (t:Nat) (x k:Operand) (ok:Bool):Option AV :=
 match aev n env x with
 | some (.m nm)=>(match und C t with
   | some (.map kt el)=>(match m.h.get nm with
     | some (.mp es _)=>(aev n env k).bind fun k=>cond (keyK C kt k)
       ((findK k es).bind fun r=>(match r with|some e=>some e.2.1|none=>zeroA C el).map fun v=>cond ok (.tu [v,.b r.isSome]) v) none
     | _=>none)
   | _=>none)
 | _=>none
noncomputable def o_entry (n:Nat) (env:Tr AV) (m:Mem) (x:Operand):Option AV :=
 match aev n env x with
 | some (.p it 0)=>(match m.h.get it with
   | some (.it (some nm) _ seen last)=>(match m.h.get nm with
     | some (.mp es clock)=>cond (Nat.beq clock last) (seen.getLast?.bind fun q=>(es.find? fun e=>Nat.beq e.2.2 q).map fun e=>.tu [e.1,e.2.1]) none
     | _=>none)
   | _=>none)
 | _=>none
noncomputable def o_len (m:Mem) (x:AV) (d:TypeDesc):Option AV :=
 match x with
 | .s l=>(match d with|.string=>some (.i .i64 (Int.ofNat l.length))|_=>none)
 | .sn=>(match d with|.slice _=>some (.i .i64 0)|_=>none)
 | .se=>(match d with|.slice _=>some (.i .i64 0)|_=>none)
 | .sl _ _ len _ _=>(match d with|.slice _=>some (.i .i64 (Int.ofNat len))|_=>none)
 | .m0=>(match d with|.map _ _=>some (.i .i64 0)|_=>none)
 | .m nm=>(match d with|.map _ _=>(match m.h.get nm with|some (.mp es _)=>some (.i .i64 (Int.ofNat es.length))|_=>none)|_=>none)
 | .tok k=>(match d with|.slice _=>C.tlen k|_=>none)
 | .ag _=>(match d with|.array k _=>some (.i .i64 (Int.ofNat k))|_=>none)
 | _=>none
noncomputable def o_cap (x:AV) (d:TypeDesc):Option AV :=
 match d with
 | .slice _=>(match x with
   | .sn=>some (.i .i64 0)
   | .sl _ _ _ cap ex=>cond ex none (some (.i .i64 (Int.ofNat cap)))
   | _=>none)
 | _=>none
noncomputable def o_mn (x y:AV):Option AV :=
 match x,y with
 | .i j a,.i _ b=>some (.i j (cond (ltI b a) b a))
 | .tok k,.i j b=>(C.bop .lss k j b).bind fun r=>match r with|.b q=>some (cond q (.tok k) (.i j b))|_=>none
 | _,_=>none
noncomputable def o_mx (x y:AV):Option AV :=
 match x,y with
 | .i j a,.i _ b=>some (.i j (cond (ltI a b) b a))
 | .tok k,.i j b=>(C.bop .lss k j b).bind fun r=>match r with|.b q=>some (cond q (.i j b) (.tok k))|_=>none
 | _,_=>none
end
end Go.Ce
namespace Go.Ce
open Go.RowKit Go.Vx
abbrev R1:=Option (AV × Mem)
abbrev RL:=Option (List (AV × Mem))
section
variable (C:Cfg)
noncomputable def repA (z:List AV) (n:Nat):List AV:=Nat.rec [] (fun _ ih=>z++ih) n
noncomputable def newA (m:Mem) (t0 t1:Nat) (k:Nat) (z:AV) (y:AV):Option (List AV × Nat × Bool) :=
 match y with
  | .i _ j=>(match und C t1 with|some (.int _)=>(natI j).bind fun j=>cond (Nat.ble j 1000000) (some (repA z.cells j,j,true)) none|_=>none)
  | .sl a b len c d=>cond (Nat.beq t0 t1) ((rowA m k (.sl a b len c d)).map fun l=>(l,len,false)) none
  | .sn=>cond (Nat.beq t0 t1) (some ([],0,false)) none
  | .se=>cond (Nat.beq t0 t1) (some ([],0,false)) none
  | _=>none
noncomputable def appX (m:Mem) (el k:Nat) (nw:List AV × Nat × Bool) (x:AV):R1 :=
 match x with
 | .sn=>cond (Nat.beq nw.2.1 0) (some (.sn,m)) (some (.sl m.c 0 nw.2.1 nw.2.1 true,m.new (.row nw.1 el k true)))
 | .se=>cond (Nat.beq nw.2.1 0) (some (.se,m)) none
 | .sl nm off len cap ex=>cond (Nat.ble len cap)
   (cond (Nat.beq nw.2.1 0) (some (.sl nm off len cap ex,m))
    (match m.h.get nm with
     | some (.row cs T k' ex')=>cond (Nat.ble (len+nw.2.1) cap)
       (cond (Nat.beq off 0&&Nat.ble ((len+nw.2.1)*k) cs.length&&Nat.blt nm m.c&&Nat.beq T el&&!nw.2.2)
        (some (.sl nm 0 (len+nw.2.1) cap ex,m.set nm (.row (cs.take (len*k)++nw.1++cs.drop ((len+nw.2.1)*k)) T k' ex'))) none)
       (cond ex
        (cond (Nat.beq off 0&&Nat.beq cs.length (cap*k)&&Nat.beq k' k&&Nat.beq T el&&ex'&&Nat.blt nm m.c&&!nw.2.2)
         (some (.sl m.c 0 (len+nw.2.1) (len+nw.2.1) true,(m.set nm .dead).new (.row (cs.take (len*k)++nw.1) el k true))) none)
        (cond (Nat.ble (off+len*k) cs.length) (some (.sl m.c 0 (len+nw.2.1) (len+nw.2.1) true,m.new (.row ((cs.drop off).take (len*k)++nw.1) el k true))) none))
     | _=>none)) none
 | _=>none
def Qvp:AV->Option Nat
 | .sl _ _ len _ _=>some len
 | .sn=>some 0
 | .se=>some 0
 | _=>none
noncomputable def appA (m:Mem) (ts:List Nat) (x y:AV):R1 :=
 match ts with
 | [t0,t1]=>(match und C t0 with
  | some (.slice el)=>(C.info el).bind fun i=>(zeroA C el).bind fun z=>(newA C m t0 t1 i.size z y).bind fun nw=>(Qvp x).bind fun lx =>
    cond (nw.1.all AV.one&&Nat.beq nw.1.length (nw.2.1*i.size)&&Nat.blt 0 i.size&&Nat.beq z.cells.length i.size&&Nat.ble (lx+nw.2.1) 1000000000&&Nat.ble ((lx+nw.2.1)*i.bytes) 100000000000)
     (appX m el i.size nw x) none
  | _=>none)
 | _=>none
noncomputable def o_alloc (m:Mem) (t:Nat):R1:=(zeroA C t).map fun z=>(.p m.c 0,m.new (.row z.cells t 0 false))
noncomputable def o_box (n:Nat) (env:Tr AV) (m:Mem) (t:Nat) (x:Operand):R1:=(aev n env x).map fun v=>(.p m.c 0,m.new (.row v.cells t 0 false))
noncomputable def o_bs (n:Nat) (env:Tr AV) (m:Mem) (t len:Nat) (ps:Array (Nat × Operand)):R1 :=
 match und C t with
 | some (.slice el)=>(szA C el).bind fun k=>(zeroA C el).bind fun z=>(aevp n env ps.toList).bind fun vs=>cond (Nat.ble (len*k) 16777216&&Nat.beq z.cells.length k)
   ((fillA (fun i=>some (i*k,k)) (repA z.cells len) vs).map fun cs=>(.sl m.c 0 len len false,m.new (.row cs el 0 false))) none
 | _=>none
noncomputable def o_store (n:Nat) (env:Tr AV) (m:Mem) (t:Nat) (a x:Operand):R1 :=
 match aev n env a with
 | some (.p nm off)=>(aev n env x).bind fun v=>(match m.h.get nm with
   | some (.row cs T k ex)=>(szA C t).bind fun q=>cond (Nat.beq v.cells.length q&&Nat.ble (off+q) cs.length&&v.cells.all AV.one&&Nat.blt nm m.c)
     (some (.tu [],m.set nm (.row (cs.take off++v.cells++cs.drop (off+q)) T k ex))) none
   | _=>none)
 | _=>none
noncomputable def o_mm (n:Nat) (env:Tr AV) (m:Mem) (t:Nat) (r:Option Operand):R1 :=
 match r with
 | none=>some (.m m.c,m.new (.mp [] 0))
 | some x=>(match aev n env x with|some (.i _ _)=>(match und C t with|some (.map _ _)=>some (.m m.c,m.new (.mp [] 0))|_=>none)|_=>none)
noncomputable def o_map (n:Nat) (env:Tr AV) (m:Mem) (t:Nat) (x k v:Operand):R1 :=
 match aev n env x with
 | some (.m nm)=>(aev n env k).bind fun k=>(aev n env v).bind fun v=>(match und C t with
   | some (.map kt _)=>(match m.h.get nm with
     | some (.mp es clock)=>cond (keyK C kt k&&Nat.blt nm m.c)
       ((findK k es).bind fun r=>(match r with
        | some e=>some (.tu [],m.set nm (.mp (es.set e.1 (k,v,e.2.2)) clock))
        | none=>some (.tu [],m.set nm (.mp (es++[(k,v,clock)]) (Nat.succ clock))))) none
     | _=>none)
   | _=>none)
 | _=>none
noncomputable def o_range (n:Nat) (env:Tr AV) (m:Mem) (t:Nat) (x:Operand):R1 :=
 match und C t with
 | some (.map _ _)=>(match aev n env x with
   | some (.m nm)=>(match m.h.get nm with|some (.mp _ clock)=>some (.p m.c 0,m.new (.it (some nm) clock [] clock))|_=>none)
   | some .m0=>some (.p m.c 0,m.new (.it none 0 [] 0))
   | _=>none)
 | _=>none
noncomputable def o_ms (n:Nat) (env:Tr AV) (m:Mem) (t:Nat) (l c:Operand):R1 :=
 match und C t with
 | some (.slice el)=>(match aev n env l with
   | some (.i _ l)=>(match aev n env c with
     | some (.i _ c)=>(natI l).bind fun l=>(natI c).bind fun c=>(szA C el).bind fun k=>(zeroA C el).bind fun z =>
       cond (Nat.ble l c&&Nat.ble c 1000000&&Nat.beq z.cells.length k&&Nat.blt 0 k) ((C.info el).bind fun i=>cond (Nat.ble i.bytes 1000000) (some (.sl m.c 0 l c false,m.new (.row (repA z.cells c) el 0 false))) none) none
     | _=>none)
   | _=>none)
 | _=>none
noncomputable def o_copyN (m:Mem) (d:TypeDesc) (x y:AV):R1 :=
 match d with
 | .slice el=>(szA C el).bind fun k=>(rowA m k y).bind fun nw=>(lenA m y).bind fun ly =>
   (match x with
    | .sn=>some (.i .i64 0,m)
    | .se=>some (.i .i64 0,m)
    | .sl nm off len _ _=>(match m.h.get nm with
      | some (.row cs T k' ex)=>cond (nw.all AV.one&&Nat.ble (off+(Nat.min ly len)*k) cs.length&&Nat.blt nm m.c&&Nat.beq nw.length (ly*k))
        (some (.i .i64 (Int.ofNat (Nat.min ly len)),m.set nm (.row (cs.take off++nw.take (Nat.min ly len*k)++cs.drop (off+Nat.min ly len*k)) T k' ex))) none
      | _=>none)
    | _=>none)
 | _=>none
noncomputable def o_copyT (m:Mem) (d:TypeDesc) (x:AV) (q:Nat):R1 :=
 match d with
 | .slice el=>(szA C el).bind fun k=>cond (Nat.beq k 1) (match x with
    | .sn=>(C.tk.cp q 0).bind fun _=>some (.i .i64 0,m)
    | .se=>(C.tk.cp q 0).bind fun _=>some (.i .i64 0,m)
    | .sl nm off len _ _=>(C.tk.cp q len).bind fun nw=>(match m.h.get nm with
      | some (.row cs T k' ex)=>cond (Nat.ble (off+len) cs.length&&Nat.blt nm m.c&&Nat.beq nw.length len)
        (some (.i .i64 (Int.ofNat len),m.set nm (.row (cs.take off++nw.map AV.tok++cs.drop (off+len)) T k' ex))) none
      | _=>none)
    | _=>none) none
 | _=>none
noncomputable def o_copy (m:Mem) (d:TypeDesc) (x y:AV):R1 :=
 match y with
 | .tok q=>o_copyT C m d x q
 | _=>o_copyN C m d x y
noncomputable def o_del (m:Mem) (d:TypeDesc) (x k:AV):R1 :=
 match d with
 | .map kt _=>(match x with
   | .m nm=>(match m.h.get nm with
     | some (.mp es clock)=>cond (keyK C kt k&&Nat.blt nm m.c)
       ((findK k es).map fun r=>(.tu [],m.set nm (.mp (match r with|some e=>es.eraseIdx e.1|none=>es) clock))) none
     | _=>none)
   | _=>none)
 | _=>none
noncomputable def o_clear (m:Mem) (d:TypeDesc) (x:AV):R1 :=
 match d with
 | .slice el=>(match x with
   | .sn=>some (.tu [],m)
   | .se=>some (.tu [],m)
   | .sl nm off len _ _=>(szA C el).bind fun k=>(zeroA C el).bind fun z=>(match m.h.get nm with
     | some (.row cs T k' ex)=>cond (Nat.ble (off+len*k) cs.length&&Nat.blt nm m.c&&Nat.beq z.cells.length k&&z.cells.all AV.one)
       (some (.tu [],m.set nm (.row (cs.take off++repA z.cells len++cs.drop (off+len*k)) T k' ex))) none
     | _=>none)
   | _=>none)
 | _=>none
noncomputable def ret1 (m:Mem) (r:Option AV):RL:=r.map fun a=>[(a,m)]
noncomputable def ret2 (r:R1):RL:=r.map fun a=>[a]
noncomputable def o_call (n:Nat) (env:Tr AV) (m:Mem) (cf yf:Nat->List AV->Mem->RL) (f:Operand) (args:Array Operand):RL :=
 (aevs n env args.toList).bind fun vs=>(match aev n env f with
  | some (.fn f caps)=>cf f (vs++caps) m
  | some (.y nm)=>yf nm vs m
  | _=>none)
noncomputable def o_b1 (m:Mem) (b:Builtin) (ts:List Nat) (x:AV):RL :=
 (ts.head?.bind (und C)).bind fun d=>(match b with
  | .len=>ret1 m (o_len C m x d)
  | .cap=>ret1 m (o_cap x d)
  | .clear=>ret2 (o_clear C m d x)
  | _=>none)
noncomputable def o_b2 (m:Mem) (b:Builtin) (ts:List Nat) (x y:AV):RL :=
 match b with
 | .min=>ret1 m (o_mn C x y)
 | .max=>ret1 m (o_mx C x y)
 | .append=>ret2 (appA C m ts x y)
 | b=>(ts.head?.bind (und C)).bind fun d=>(match b with
  | .copy=>ret2 (o_copy C m d x y)
  | .delete=>ret2 (o_del C m d x y)
  | _=>none)
noncomputable def o_built (n:Nat) (env:Tr AV) (m:Mem) (b:Builtin) (args:Array Operand) (ts:Array Nat):RL :=
 (aevs n env args.toList).bind fun vs=>(match vs with
  | [x]=>o_b1 C m b ts.toList x
  | [x,y]=>o_b2 C m b ts.toList x y
  | _=>none)
noncomputable def o_c (n:Nat) (env:Tr AV) (m:Mem) (cf yf:Nat->List AV->Mem->RL) (c:Call):RL :=
 match c.callee with
 | .value f=>o_call n env m cf yf f c.args
 | .builtin b=>o_built C n env m b c.args c.argTypes
 | _=>none
noncomputable def anyA (n:Nat) (env:Tr AV) (m:Mem) (cf yf:Nat->List AV->Mem->RL) (op:Op):RL :=
 match op with
 | .move x=>ret1 m (aev n env x)
 | .assign x=>ret1 m (aev n env x)
 | .pick c a b=>ret1 m (o_pick n env c a b)
 | .alloc t=>ret2 (o_alloc C m t)
 | .box t x=>ret2 (o_box n env m t x)
 | .build t ps=>ret1 m ((aevp n env ps.toList).bind (buildA C t))
 | .buildSlice t len ps=>ret2 (o_bs C n env m t len ps)
 | .insert t x k v=>ret2 (o_map C n env m t x k v)
 | .load t x=>ret1 m (o_load C n env m t x)
 | .store t a x=>ret2 (o_store C n env m t a x)
 | .nilCheck x=>ret1 m (o_nil n env x)
 | .binOp op t x y _=>ret1 m (o_bin C n env op t x y)
 | .unOp u _ x=>ret1 m (o_un n env u x)
 | .convert s d x=>ret1 m (o_conv C n env s d x)
 | .sliceToArrayPointer t x=>ret1 m (o_sap C n env t x)
 | .makeInterface t x=>ret1 m (o_mi C n env t x)
 | .makeFunc f first caps=>ret1 m (o_mf n env f first caps)
 | .makeMap t r=>ret2 (o_mm C n env m t r)
 | .makeSlice t l c=>ret2 (o_ms C n env m t l c)
 | .slice t x lo hi mx=>ret1 m ((aev n env x).bind fun v=>sliceA C n env t v lo hi mx)
 | .fieldAddr s x f=>ret1 m (o_fa C n env s x f)
 | .field t x f=>ret1 m (o_field C n env t x f)
 | .indexAddr t x ix=>ret1 m (o_ia C n env t x ix)
 | .index t x ix=>ret1 m (o_ix C n env t x ix)
 | .lookup t x k ok=>ret1 m (o_look C n env m t x k ok)
 | .mapUpdate t x k v=>ret2 (o_map C n env m t x k v)
 | .range t x=>ret2 (o_range C n env m t x)
 | .entry x=>ret1 m (o_entry n env m x)
 | .typeAssert x _ t ok=>ret1 m (o_ta C n env x t ok)
 | .extract x i=>ret1 m (o_ext n env x i)
 | .call c=>o_c C n env m cf yf c
 | _=>none
inductive Ex where
 | nm
 | rt
 | ex (i:Nat)
inductive DF where
 | mk (nm:Nat)
 | fn (f:Nat) (args:List AV)
structure Out where
 x:Ex
 env:Tr AV
 ds:List DF
 m:Mem
noncomputable def goO (k:Out->Option (List Out)):List Out->Option (List Out) :=
 List.rec (some []) (fun o _ ih=>(k o).bind fun l=>ih.bind fun l'=>some (l++l'))
noncomputable def thn (k:Tr AV->List DF->Mem->Option (List Out)) (o:Out):Option (List Out) :=
 match o.x with
 | .nm=>k o.env o.ds o.m
 | x=>some [⟨x,o.env,o.ds,o.m⟩]
noncomputable def putO (env:Tr AV) (d:Option Nat) (v:AV):Tr AV :=
 match d with
 | none=>env
 | some d=>env.put d (some v)
noncomputable def wantA (n:Nat) (all:List Oper) (env:Tr AV) (o:Oper):Option Bool :=
 match o.guard with
 | none=>some true
 | some (j,want)=>(all[j]?).bind fun q=>q.dst.bind fun d=>cond (Nat.blt d n) ((env.get d).bind fun v=>match v with
   | .b t=>some (t == want)
   | .tu _=>some false
   | _=>none) none
noncomputable def nextA (n:Nat) (env:Tr AV) (m:Mem) (x:Operand):Option (List (AV × Mem)) :=
 match aev n env x with
 | some (.p it 0)=>(match m.h.get it with
   | some (.it none _ _ _)=>some [(.tu [.b false],m)]
   | some (.it (some nm) since seen last)=>(match m.h.get nm with
     | some (.mp es clock)=>cond (Nat.beq clock last&&Nat.beq clock since&&Nat.blt it m.c&&es.all fun e=>Nat.blt e.2.2 clock)
       (match es.filter fun e=>!(seen.any (Nat.beq e.2.2)) with
        | []=>some [(.tu [.b false],m)]
        | l=>some (l.map fun e=>(.tu [.b true,e.1,e.2.1],m.set it (.it (some nm) since (seen++[e.2.2]) clock)))) none
     | _=>none)
   | _=>none)
 | _=>none
noncomputable def manyA (k:AV × Mem->Option (List Out)):List (AV × Mem)->Option (List Out):=List.rec (some []) (fun v _ ih=>(k v).bind fun a=>ih.bind fun b=>some (a++b))
noncomputable def ordA (n:Nat) (rd:Bool) (cf yf:Nat->List AV->Mem->RL) (all l:List Oper):Tr AV->List DF->Mem->Option (List Out) :=
 List.rec (fun env ds m=>some [⟨.nm,env,ds,m⟩]) (fun o _ ih env ds m =>
  (wantA n all env o).bind fun q=>cond q
   (match o.op with
    | .next x false=>(nextA n env m x).bind (manyA fun v=>ih (putO env o.dst v.1) ds v.2)
    | .defer { callee:=.value f,args,.. }=>cond rd none ((aev n env f).bind fun f=>(aevs n env args.toList).bind fun vs =>
      (match f with|.fn f caps=>ih (putO env o.dst (.tu [])) (.fn f (vs++caps) :: ds) m|_=>none))
    | op=>(anyA C n env m cf yf op).bind (manyA fun v=>ih (putO env o.dst v.1) ds v.2))
   (ih (putO env o.dst (.tu [])) ds m)) l
noncomputable def resultA (n:Nat) (env:Tr AV) (m:Mem):ResultVar->Option AV
 | .tmp t=>aev n env (.tmp t)
 | .cell a t=>(match aev n env (.tmp a) with|some (.p nm off)=>loadA C m t nm off|_=>none)
noncomputable def resultsA (n:Nat) (env:Tr AV) (m:Mem) (rs:List ResultVar):Option AV :=
 match rs with
 | [r]=>resultA C n env m r
 | rs=>(List.rec (motive:=fun _=>Option (List AV)) (some []) (fun r _ ih=>(resultA C n env m r).bind fun a=>ih.map fun l=>a :: l) rs).map .tu
abbrev Run:=Nat->Bool->Code->Tr AV->List DF->Mem->Option (List Out)
noncomputable def callD (ih:Run) (f:Nat) (args:List AV) (m:Mem):Option Mem :=
 (C.fn f).bind fun fn=>fn.body.bind fun c=>cond (Nat.ble args.length fn.ntmps)
  ((ih fn.ntmps false c (Tr.ofL args 0 .lf) [] m).bind fun outs=>(match outs with
   | [⟨.nm,env,[],m'⟩]=>(resultsA C fn.ntmps env m' fn.results.toList).map fun _=>m'
   | [⟨.rt,env,[],m'⟩]=>(resultsA C fn.ntmps env m' fn.results.toList).map fun _=>m'
   | _=>none)) none
noncomputable def leaveA (ih:Run) (fn:Func) (env:Tr AV) (ds:List DF):Mem->R1 :=
 List.rec (fun m=>(resultsA C fn.ntmps env m fn.results.toList).map fun v=>(v,m)) (fun d _ go m =>
  match d with
  | .mk nm=>(match m.h.get nm with|some (.df true)=>cond (Nat.blt nm m.c) (go (m.set nm (.df false))) none|_=>none)
  | .fn f args=>(callD C ih f args m).bind go) ds
noncomputable def leaveO (ih:Run) (fn:Func) (o:Out):R1 :=
 match o.x with
 | .ex _=>none
 | _=>leaveA C ih fn o.env o.ds o.m
def above (c:Nat) (l:List Nat):Bool:=l.all (Nat.ble c)
noncomputable def mergeF (m:Mem) (r:AV × Mem) (l:List (AV × Mem)):R1 :=
  cond (l.all fun q=>above m.c q.2.d)
   (match r.1 with
    | .sl nm off len cap ex=>(match r.2.h.get nm with
      | some (.row cs T k ex')=>cond (Nat.ble m.c nm&&Nat.blt nm r.2.c&&l.all fun q=>(match q.1 with
         | .sl nm2 off2 len2 cap2 ex2=>Nat.beq nm nm2&&Nat.beq off off2&&Nat.beq len len2&&Nat.beq cap cap2&&(ex == ex2)&&(match q.2.h.get nm with
           | some (.row cs2 T2 k2 ex2')=>Nat.beq T T2&&Nat.beq k k2&&(ex' == ex2')&&(match beqC cs cs2 with|some b=>b|none=>false)&&Nat.blt nm q.2.c
           | _=>false)
         | _=>false))
        (some (r.1,⟨m.h.put nm (some (.row cs T k ex')),l.foldl (fun c q=>Nat.max c q.2.c) r.2.c,m.d⟩)) none
      | _=>none)
    | v=>cond (l.all fun q=>(match beqS v q.1 with|some b=>b|none=>false)) (some (v,⟨m.h,l.foldl (fun c q=>Nat.max c q.2.c) r.2.c,m.d⟩)) none) none
noncomputable def mergeA (m:Mem) (l:List (AV × Mem)):List (AV × Mem) :=
 match l with
 | r :: _ :: _=>(match mergeF m r l with|some r=>[r]|none=>l.map fun r=>(r.1,⟨r.2.h,r.2.c,r.2.d.filter (fun x=>Nat.blt x m.c)++m.d⟩))
 | l=>l.map fun r=>(r.1,⟨r.2.h,r.2.c,r.2.d.filter (fun x=>Nat.blt x m.c)++m.d⟩)
noncomputable def extA (name:String) (args:List AV) (m:Mem):R1 :=
 match args with
 | [.fc t (.m nm)]=>(match m.h.get nm with
   | some (.mp es clock)=>cond (name == "maps.clone") (some (.fc t (.m m.c),m.new (.mp es clock))) none
   | _=>none)
 | _=>none
noncomputable def callA (ih:Run) (f:Nat) (args:List AV) (m:Mem):RL :=
 (C.fn f).bind fun fn=>match fn.body with
  | none=>(extA fn.name args m).map fun r=>[r]
  | some c=>cond (Nat.ble args.length fn.ntmps)
   ((ih fn.ntmps false c (Tr.ofL args 0 .lf) [] ⟨m.h,m.c,[]⟩).bind fun outs =>
    (List.rec (motive:=fun _=>Option (List (AV × Mem))) (some []) (fun o _ go=>(leaveO C ih fn o).bind fun a=>go.map fun l=>a :: l) outs).map (mergeA m)) none
noncomputable def yieldA (ih:Run) (nm:Nat) (args:List AV) (m:Mem):RL :=
 match m.h.get nm,args with
 | some (.lp n env p assign body d .ready),[a]=>cond (Nat.blt nm m.c) ((ih n true assign (env.put p (some a)) [] m).bind fun o1=>(match o1 with
   | [⟨.nm,env1,[],m1⟩]=>(match m1.h.get nm with
     | some (.lp n' env' p' assign' body' d' .ready)=>cond (Nat.blt nm m1.c) ((ih n true body env1 [] (m1.set nm (.lp n' env' p' assign' body' d' .busy))).bind fun o2=>(match o2 with
       | [⟨.nm,_,[],m2⟩]=>(match m2.h.get nm with
         | some (.lp n'' env'' p'' assign'' body'' d'' .busy)=>cond (Nat.blt nm m2.c) (some [(.b true,m2.set nm (.lp n'' env'' p'' assign'' body'' d'' .ready))]) none
         | _=>none)
       | _=>none)) none
     | _=>none)
   | _=>none)) none
 | _,_=>none
noncomputable def callH (ih:Run) (f:Nat) (args:List AV) (m:Mem):RL :=
 match C.hk f args m with
 | some r=>some r
 | none=>callA C ih f args m
def Qig (o:Oper):List Nat:=(o.after.toList.filter fun e=>Region.binds .any e).map (·.on)
noncomputable def masksA:List Oper->List Nat->List Nat:=List.rec (fun acc=>acc) (fun o _ ih acc=>ih (acc++[(Qig o).foldl (fun s j=>Nat.lor s (Nat.lor (Nat.pow 2 j) (acc.getD j 0))) 0]))
structure Rec where
 mask:Nat
 still:Bool
 sub:Tr AB
 wr:List Nat
 lo:Nat
 hi:Nat
 bf:Tr AB
noncomputable def hideA (h:Tr AB) (wr:List Nat) (lo n:Nat):Tr AB:=Nat.rec (wr.foldl (fun h x=>h.put x none) h) (fun k ih=>ih.put (lo+k) none) n
noncomputable def beqV (a b:AV):Bool :=
 match a,b with
 | .any,.any=>true
 | .tok x,.tok y=>Nat.beq x y
 | .i j x,.i k y=>Nat.beq (kd j) (kd k)&&eqI x y
 | .b x,.b y=>x == y
 | .s x,.s y=>beqL x y
 | .p0,.p0=>true
 | .p x o,.p y q=>Nat.beq x y&&Nat.beq o q
 | .sn,.sn=>true
 | .sl a1 a2 a3 a4 a5,.sl b1 b2 b3 b4 b5=>Nat.beq a1 b1&&Nat.beq a2 b2&&Nat.beq a3 b3&&Nat.beq a4 b4&&(a5 == b5)
 | .m0,.m0=>true
 | .m x,.m y=>Nat.beq x y
 | .f0,.f0=>true
 | _,_=>false
noncomputable def joinL:List AV->List AV->List AV:=List.rec (fun _=>[]) (fun a _ ih l=>List.casesOn l [] (fun b l=>cond (beqV a b) a .any :: ih l))
noncomputable def joinB (a b:AB):Option AB :=
 match a,b with
 | .row cs T k ex,.row cs' T' k' ex'=>cond (Nat.beq T T'&&Nat.beq k k'&&(ex == ex')&&Nat.beq cs.length cs'.length&&cs.all AV.flat&&cs'.all AV.flat) (some (.row (joinL cs cs') T k ex)) none
 | _,_=>none
noncomputable def wkL:List AV->List AV->Bool:=List.rec (fun l=>List.casesOn l true (fun _ _=>false)) (fun a _ ih l=>List.casesOn l false (fun b l=>(match a with|.any=>b.flat|a=>beqV a b)&&ih l))
noncomputable def wkB (a b:AB):Bool :=
 match a,b with
 | .row cs T k ex,.row cs' T' k' ex'=>Nat.beq T T'&&Nat.beq k k'&&(ex == ex')&&wkL cs cs'
 | _,_=>false
noncomputable def needA (n:Nat) (env:Tr AV) (op:Op):Option (List Nat) :=
 let one (x:Operand):Option (List Nat):=(aev n env x).bind fun v=>match v with
  | .p nm _=>some [nm]
  | .sl nm _ _ _ _=>some [nm]
  | .m nm=>some [nm]
  | _=>some []
 match op with
 | .load _ x=>one x
 | .store _ x _=>one x
 | .range _ x=>one x
 | .mapUpdate _ x _ _=>one x
 | .insert _ x _ _=>one x
 | .lookup _ x _ _=>one x
 | .call c=>(match c.callee with
   | .builtin _=>(match c.args.toList with
     | [x]=>one x
     | [x,y]=>(one x).bind fun a=>(one y).map fun b=>a++b
     | _=>some [])
   | _=>none)
 | .entry _=>none
 | .convert _ _ x=>one x
 | _=>some []
def QiU:Op->Bool
 | .load _ _=>true
 | .lookup _ _ _ _=>true
 | .call c=>(match c.callee with|.builtin .len=>true|_=>false)
 | _=>false
noncomputable def blankA (off k:Nat) (cs:List AV):List AV:=List.rec (fun _=>[]) (fun a _ ih i=>cond (Nat.ble off i&&Nat.blt i (off+k)) a (cond a.flat .any a) :: ih (Nat.succ i)) cs 0
noncomputable def seeA (h:Tr AB) (un:List Rec) (x:Nat):Option AB :=
 un.foldl (fun b u=>cond (Nat.ble u.lo x&&Nat.blt x u.hi) none (cond (u.wr.any (Nat.beq x)) (b.bind fun b=>(u.bf.get x).bind fun c=>joinB b c) b)) (h.get x)
noncomputable def subA (n:Nat) (env:Tr AV) (op:Op) (h:Tr AB) (un:List Rec) (ns:List Nat):Tr AB :=
 match op,ns with
 | .load t x,[nm]=>(match seeA h un nm,aev n env x,szA C t with
   | some (.row cs T k ex),some (.p _ off),some q=>Tr.lf.put nm (some (.row (blankA off q cs) T k ex))
   | _,_,_=>.lf)
 | _,ns=>ns.foldl (fun t x=>t.put x (seeA h un x)) .lf
noncomputable def hidA (h:Tr AB) (un:List Rec):Tr AB:=un.foldl (fun h r=>hideA h r.wr r.lo (r.hi-r.lo)) h
noncomputable def okW (un:List Rec) (view:Tr AB) (wr:List Nat) (h:Tr AB):Bool:=wr.all (fun x=>(view.get x).isSome&&(h.get x).isSome) &&
 un.all fun u=>wr.all fun x=>(match u.sub.get x with|none=>true|some a=>u.still&&(match h.get x with|some b=>wkB a b|none=>false))
noncomputable def backA (h h':Tr AB) (wr:List Nat) (lo n:Nat):Tr AB:=Nat.rec (motive:=fun _=>Tr AB) (wr.foldl (fun h x=>h.put x (h'.get x)) h) (fun k ih=>ih.put (lo+k) (h'.get (lo+k))) n
noncomputable def unA (recs:List Rec) (mask:Nat):List Rec:=(recs.zipIdx.filter (fun r=>!(Nat.testBit mask r.2))).map (fun r=>r.1)
noncomputable def seesA (n:Nat) (env:Tr AV) (op:Op) (h:Tr AB) (un:List Rec):Tr AB :=
 match needA n env op with
 | none=>hidA h un
 | some ns=>ns.foldl (fun t x=>t.put x ((hidA h un).get x)) .lf
def Qtb:List (AV × Mem)->R1
 | [r]=>some r
 | _=>none
noncomputable def stepA (n:Nat) (cf yf:Nat->List AV->Mem->RL) (all:List Oper) (recs:List Rec) (env:Tr AV) (m:Mem) (q:Oper × Nat):Option (Rec × AV × Mem) :=
 (wantA n all env q.1).bind fun w=>cond w
  (cond (QiU q.1.op)
   ((needA n env q.1.op).bind fun ns=>((anyA C n env ⟨subA C n env q.1.op m.h (unA recs q.2) ns,m.c,[]⟩ cf yf q.1.op).bind Qtb).bind fun a =>
    some (⟨q.2,true,subA C n env q.1.op m.h (unA recs q.2) ns,[],m.c,m.c,m.h⟩,a.1,m))
   (((anyA C n env ⟨seesA n env q.1.op m.h (unA recs q.2),m.c,[]⟩ cf yf q.1.op).bind Qtb).bind fun r =>
    cond (okW (unA recs q.2) (seesA n env q.1.op m.h (unA recs q.2)) (r.2.d.filter (fun x=>Nat.blt x m.c)) r.2.h)
     (some (⟨q.2,false,seesA n env q.1.op m.h (unA recs q.2),r.2.d.filter (fun x=>Nat.blt x m.c),m.c,r.2.c,m.h⟩,r.1,
      ⟨backA m.h r.2.h (r.2.d.filter (fun x=>Nat.blt x m.c)) m.c (r.2.c-m.c),r.2.c,r.2.d.filter (fun x=>Nat.blt x m.c)++m.d⟩)) none))
  (some (⟨q.2,true,.lf,[],m.c,m.c,.lf⟩,.tu [],m))
noncomputable def drawA (n:Nat) (cf yf:Nat->List AV->Mem->RL) (all:List Oper) (l:List (Oper × Nat)):List Rec->Tr AV->Mem->Option (Tr AV × Mem) :=
 List.rec (fun _ env m=>some (env,m)) (fun q _ go recs env m=>(stepA C n cf yf all recs env m q).bind fun r=>go (recs++[r.1]) (putO env q.1.dst r.2.1) r.2.2) l
noncomputable def dstT:List Oper->Nat->Tr Nat->Option (Tr Nat):=List.rec (fun _ t=>some t) (fun o _ ih i t=>match o.dst with
 | none=>ih (Nat.succ i) t
 | some d=>(match t.get d with|none=>ih (Nat.succ i) (t.put d (some i))|some _=>none))
noncomputable def tmpsA (T:Tr Nat) (ms:List Nat) (mask i:Nat) (l:List Operand):Bool:=l.all fun x=>match x with
 | .tmp t=>(match T.get t with|none=>true|some j=>cond (Nat.blt j i) (Nat.testBit mask j) (Nat.blt i j&&Nat.testBit (ms.getD j 0) i))
 | _=>true
noncomputable def regA (T:Tr Nat) (ms:List Nat):List (Oper × Nat)->Nat->Bool:=List.rec (fun _=>true) (fun q _ ih i =>
 (Qig q.1).all (fun d=>Nat.blt d i)&&tmpsA T ms q.2 i q.1.op.operands.toList&&(match q.1.guard with|none=>true|some (j,_)=>Nat.blt j i&&Nat.testBit q.2 j)&&ih (Nat.succ i))
noncomputable def drawR (n:Nat) (cf yf:Nat->List AV->Mem->RL) (l:List Oper) (env:Tr AV) (m:Mem):Option (Tr AV × Mem) :=
 cond (match dstT l 0 .lf with|some T=>regA T (masksA l []) (l.zip (masksA l [])) 0|none=>false) (drawA C n cf yf l (l.zip (masksA l [])) [] env m) none
noncomputable def execF (ih:Run) (n:Nat) (rd:Bool) (c:Code) (env:Tr AV) (ds:List DF) (m:Mem):Option (List Out) :=
 match c with
 | .skip=>some [⟨.nm,env,ds,m⟩]
 | .label _=>some [⟨.nm,env,ds,m⟩]
 | .ret=>some [⟨.rt,env,ds,m⟩]
 | .exit i=>some [⟨.ex i,env,ds,m⟩]
 | .region _ ops draw=>cond draw ((drawR C n (callH C ih) (yieldA ih) ops.toList env m).map fun r=>[⟨.nm,r.1,ds,r.2⟩])
   (ordA C n rd (callH C ih) (yieldA ih) ops.toList ops.toList env ds m)
 | .seq a b=>(ih n rd a env ds m).bind (goO (thn (ih n rd b)))
 | .cond c a b=>(match aev n env c with|some (.b t)=>cond t (ih n rd a env ds m) (ih n rd b env ds m)|_=>none)
 | .block i b=>(ih n rd b env ds m).map (List.map fun o=>(match o.x with|.ex j=>cond (Nat.beq j i) ⟨.nm,o.env,o.ds,o.m⟩ o|_=>o))
 | .loop b=>(ih n rd b env ds m).bind (goO (thn (ih n rd (.loop b))))
 | .rangeFunc g ps assign body=>cond rd none (match ps.toList,aev n env g with
   | [p],some (.fn f caps)=>(callA C ih f (.y (Nat.succ m.c) :: caps) ((m.new (.df true)).new (.lp n env p assign body m.c .ready))).bind (manyA fun r=>(match r.2.h.get (Nat.succ m.c) with
     | some (.lp n' env' p' assign' body' d' .ready)=>some [⟨.nm,env,.mk m.c :: ds,r.2.set (Nat.succ m.c) (.lp n' env' p' assign' body' d' .exhausted)⟩]
     | _=>none))
   | _,_=>none)
 | _=>none
noncomputable def exec (fuel:Nat):Run:=Nat.rec (fun _ _ _ _ _ _=>none) (fun _ ih=>execF C ih) fuel
end
end Go.Ce
namespace Go.Ce
open Go.RowKit Go.Vx
variable [Tok]
def Qqn (P:Program) (t:Nat) (sh:List Nat):Prop:=∀ (σ:Sig) (xs ys:List AV) (vs us:List Value) (r:Bool),RelL σ xs vs->RelL σ ys us->xs.map shp=sh->ys.map shp=sh->beqC xs ys=some r ->
 P.eqGuardType P.depth t=false/\∀ w,(Op.equal t (.agg vs.toArray) (.agg us.toArray)).run P w = .ok r w
structure TkOk (T:TokT):Prop where
 ix:∀ k j q,T.ix k j=some q->∃ a l c,Tok.v k = .slice (some a) l c/\j<l/\Tok.v q = .pointer (some (a.add j))
 ld:∀ k q,T.ld k=some q->∃ b o,Tok.v k = .pointer (some ⟨b,o,none⟩)/\(Tok.v q).oneCell'=true/\∀ (w0:World) (M:Nat->Prop),Tok.I w0 M->∀ (w:World) (L:List Res),Own w0 M w L->w.cell? ⟨b,o,none⟩=some (Tok.v q)
 sl:∀ k a q,T.sl k a=some q->∃ p l c,Tok.v k = .slice p l c/\a<=l/\l<=c/\Tok.v q=sliced p a l c 1/\(Tok.v q).oneCell'=true
 cv:∀ k j q,T.cv k j=some q->∃ i p,Tok.v k = .int i p/\Tok.v q = .int j (j.wrap p)
 cp:∀ k n l,T.cp k n=some l->∃ p d c,Tok.v k = .slice p d c/\n<=d/\l.length=n/\(p=none->d=0)/\(∀ x∈l,(Tok.v x).oneCell'=true)/\∀ (w0:World) (M:Nat->Prop),Tok.I w0 M->∀ (w:World) (L:List Res),Own w0 M w L->∀ a,p=some a->∀ j x,l[j]?=some x->w.cell? (a.add j)=some (Tok.v x)
theorem Qld:TkOk QsZ:=⟨fun _ _ _ h=>(nomatch h),fun _ _ h=>(nomatch h),fun _ _ _ h=>(nomatch h),fun _ _ _ h=>(nomatch h),fun _ _ _ h=>(nomatch h)⟩
structure CfgOk (C:Cfg) (P:Program):Prop where
 info:∀ t i,C.info t=some i->P.info? t=some i
 fn:∀ f fn,C.fn f=some fn->P.funcs[f]?=some fn
 en:∀ f fn c,C.fn f=some fn->fn.body=some c->En P f
 eqs:∀ t sh,C.eqs t=some sh->Qqn P t sh
 ext:∀ f fn,C.fn f=some fn->fn.body=none->fn.name = "maps.clone"->∀ t b es clock (w:World),w.heap[b]?=some (.map es clock)->(callFunc f #[.iface t (.map (some b))]).run P w = .ok (.value (.iface t (.map (some w.heap.size)))) (w.alloc (.map es clock))
 bop:∀ op k j b a,C.bop op k j b=some a->∃ p,Tok.v k = .int j p/\∀ t,binA C op t (.i j p) (.i j b)=some a
 tlen:∀ k r,C.tlen k=some r->∃ q l c,Tok.v k = .slice q l c/\∀ σ,Rel σ r (.int .i64 (l:Int))
 mixed:P.follows .mixedOrders=true
 tk:TkOk C.tk
 kys:∀ t,C.kys t=true->KeyOk P t dv
def Gl (σ:Sig):Prop:=∀ g,g<64->∃ e,σ g=some (g,e)
theorem Gl.mono {σ σ':Sig} (h:Gl σ) (hl:Le σ σ'):Gl σ':=fun g hg=>let ⟨e,he⟩:=h g hg;⟨e,hl _ _ he⟩
def HE (n:Nat) (env:Tr AV) (e:Operand->Value) (σ:Sig) (xs:List Operand):Prop:=∀ x∈xs,∀ a,aev n env x=some a->Rel σ a (e x)
abbrev X (P:Program) (op:Op) (ty:TypeId) (e:Operand->Value) (w:World):Result Next:=(execOp e { dst:=none,op,type:=ty,pos:="",after:=#[],guard:=none }).run P w
def Qba (P:Program) (op:Op) (e:Operand->Value) (w:World) (σ:Sig) (a:AV):Prop:=∃ V,Rel σ a V/\∀ ty,X P op ty e w = .ok (.value V) w
theorem Qt7 (k:IntKind) (hs:k.signed=false) (q:Nat) (hb:q<lim k):k.wrap (BitVec.toNat (BitVec.ofInt k.bits k.max ^^^ BitVec.ofInt k.bits (q:Int)):Nat)=Int.ofNat (Nat.sub (Nat.sub (lim k) 1) q):=by
 have key:∀ (w M:Nat),M=2 ^ w->q<M->(BitVec.ofInt w ((M:Int)-1) ^^^ BitVec.ofInt w (q:Int)).toNat=M-1-q:=by
  intro w M hM hq
  have h1:BitVec.ofInt w ((M:Int)-1)=BitVec.allOnes w:=by
   apply BitVec.eq_of_toInt_eq
   rw [BitVec.toInt_ofInt]
   have:(M:Int)-1=((BitVec.allOnes w).toNat:Int):=by
    rw [BitVec.toNat_allOnes,← hM];omega
   rw [this,BitVec.toInt_eq_toNat_bmod]
  rw [h1,BitVec.allOnes_xor,BitVec.toNat_not,BitVec.ofInt_natCast,BitVec.toNat_ofNat,← hM,Nat.mod_eq_of_lt hq]
 cases k<;>first|(cases hs;done)|skip
 ·have:=key 8 256 rfl hb;exact (congrArg (fun (x:Nat)=>IntKind.u8.wrap (x:Int)) this).trans (Qb9 (k:=.u8) (m:=256-1-q) (by simp only [lim];omega))
 ·have:=key 16 65536 rfl hb;exact (congrArg (fun (x:Nat)=>IntKind.u16.wrap (x:Int)) this).trans (Qb9 (k:=.u16) (m:=65536-1-q) (by simp only [lim];omega))
 ·have:=key 32 4294967296 rfl hb;exact (congrArg (fun (x:Nat)=>IntKind.u32.wrap (x:Int)) this).trans (Qb9 (k:=.u32) (m:=4294967296-1-q) (by simp only [lim];omega))
 have:=key 64 18446744073709551616 rfl hb;exact (congrArg (fun (x:Nat)=>IntKind.u64.wrap (x:Int)) this).trans (Qb9 (k:=.u64) (m:=18446744073709551616-1-q) (by simp only [lim];omega))
theorem Qol (k:IntKind) (x y:Nat) (hx:x<lim k) (hy:y<lim k) :
  bits .and k x y=Int.ofNat (Nat.land x y)/\bits .or k x y=Int.ofNat (Nat.lor x y)/\bits .xor k x y=Int.ofNat (Nat.xor x y):=by
 have hp:∃ p,lim k=2 ^ p/\p<=k.bits:=by
  cases k
  exact ⟨7,rfl,by decide⟩
  exact ⟨15,rfl,by decide⟩
  exact ⟨31,rfl,by decide⟩
  exact ⟨63,rfl,by decide⟩
  exact ⟨8,rfl,by decide⟩
  exact ⟨16,rfl,by decide⟩
  exact ⟨32,rfl,by decide⟩
  exact ⟨64,rfl,by decide⟩
 obtain ⟨p,hp,hpk⟩:=hp
 have hw:lim k<=2 ^ k.bits:=by rw [hp];exact Nat.pow_le_pow_right (by omega) hpk
 have e1:(BitVec.ofInt k.bits (x:Int)).toNat=x:=by rw [BitVec.ofInt_natCast,BitVec.toNat_ofNat,Nat.mod_eq_of_lt (by omega)]
 have e2:(BitVec.ofInt k.bits (y:Int)).toNat=y:=by rw [BitVec.ofInt_natCast,BitVec.toNat_ofNat,Nat.mod_eq_of_lt (by omega)]
 have h1:x &&& y<lim k:=Nat.lt_of_le_of_lt Nat.and_le_left hx
 have h2:x ||| y<lim k:=by rw [hp] at hx hy ⊢;exact Nat.or_lt_two_pow hx hy
 have h3:x ^^^ y<lim k:=by rw [hp] at hx hy ⊢;exact Nat.xor_lt_two_pow hx hy
 refine ⟨?_,?_,?_⟩
 ·unfold bits;dsimp only;rw [BitVec.toNat_and,e1,e2];exact Qb9 h1
 ·unfold bits;dsimp only;rw [BitVec.toNat_or,e1,e2];exact Qb9 h2
 unfold bits;dsimp only;rw [BitVec.toNat_xor,e1,e2];exact Qb9 h3
theorem QqE:∀ l m:List Nat,(∀ x∈l,x<256)->(∀ x∈m,x<256)->ltL l m=Op.bytesLess (l.map UInt8.ofNat) (m.map UInt8.ofNat)
 | [],[],_,_=>by rfl
 | [],_ :: _,_,_=>by rfl
 | a :: l,[],_,_=>by rfl
 | a :: l,b :: m,hl,hm=>by
  show cond (Nat.blt a b) true (cond (Nat.beq a b) (ltL l m) false)=(decide (UInt8.ofNat a<UInt8.ofNat b)||(UInt8.ofNat a == UInt8.ofNat b&&Op.bytesLess (l.map UInt8.ofNat) (m.map UInt8.ofNat)))
  have ha:=hl a (by simp)
  have hb:=hm b (by simp)
  rw [QqE l m (fun x hx=>hl x (by simp [hx])) (fun x hx=>hm x (by simp [hx])),Qbg,QbT]
  have e1:(UInt8.ofNat a<UInt8.ofNat b)↔a<b:=by
   rw [UInt8.lt_iff_toNat_lt];simp only [UInt8.toNat_ofNat'];omega
  have e2:(UInt8.ofNat a == UInt8.ofNat b)=decide (a=b):=by
   by_cases h:a=b
   ·subst h;simp
   have:¬UInt8.ofNat a=UInt8.ofNat b:=fun e=>by
    have:=congrArg UInt8.toNat e
    simp only [UInt8.toNat_ofNat'] at this
    omega
   simp [h,this]
  rw [e2]
  by_cases h:a<b
  ·simp [h,e1]
  by_cases h':a=b<;>simp [h,h',e1]
section
variable {C:Cfg} {P:Program} (HC:CfgOk C P) {n:Nat} {env:Tr AV} {e:Operand->Value} {σ:Sig} {w:World} {m:Mem}
include HC
theorem Qdl {t:Nat} {d:TypeDesc} (h:und C t=some d):P.underlying t=some d:=by
 unfold und at h
 unfold Program.underlying
 cases hi:C.info t with
 | none=>rw [hi] at h;cases h
 | some i =>
  rw [hi] at h
  rw [HC.info t i hi]
  obtain ⟨desc,s1,s2,s3,s4,s5,s6,s7,s8,s9⟩:=i
  cases desc<;>dsimp only at h ⊢<;>first|exact h|skip
  rename_i nm u
  cases hu:C.info u with
  | none=>rw [hu] at h;cases h
  | some j=>rw [hu] at h;rw [HC.info u j hu];exact h
theorem Qbm {t:Nat} {d:TypeDesc} (h:und C t=some d):Ud P t d:=fun w=>by rw [run_underlying (Qdl HC h)]
theorem Qfx {t k:Nat} (h:szA C t=some k):Sz P t k:=fun w=>by
 unfold szA at h
 cases hi:C.info t with
 | none=>rw [hi] at h;cases h
 | some i =>
  rw [hi] at h;cases h
  simp [sizeOf,typeInfo,HC.info t i hi]
theorem Qh6 {t k:Nat} (h:szA C t=some k):∃ i,P.info? t=some i/\i.size=k/\C.info t=some i:=by
 unfold szA at h
 cases hi:C.info t with
 | none=>rw [hi] at h;cases h
 | some i=>rw [hi] at h;cases h;exact ⟨i,HC.info t i hi,rfl,rfl⟩
theorem QjK {t:Nat} {g:Bool} (h:aggA C t=some g):Ag P t g:=fun w=>by
 unfold aggA at h
 cases hd:und C t with
 | none=>rw [hd] at h;cases h
 | some d =>
  rw [hd] at h;cases h
  simp only [isAgg,Sem.run_bind,Qbm HC hd w,Result.andThen_ok]
  cases d<;>rfl
theorem Qet {t:Nat} {z:AV} (h:zeroA C t=some z):∃ Z,Zv P t Z/\(∀ σ,Rel σ z Z)/\∃ i,P.info? t=some i/\i.zero=some Z:=by
 unfold zeroA at h
 cases hi:C.info t with
 | none=>rw [hi] at h;cases h
 | some i =>
  rw [hi] at h
  cases hz:i.zero with
  | none=>simp only [Option.bind_some,hz] at h;cases h
  | some Z =>
   simp only [Option.bind_some,hz] at h
   exact ⟨Z,fun w=>by simp [zeroValue,typeInfo,HC.info t i hi,hz],fun σ=>Qoj h,i,HC.info t i hi,hz⟩
omit HC
theorem QeP {J:Env} (hE:Qgm σ env J) (hG:Gl σ) {x:Operand} {a:AV} (h:aev n env x=some a):Rel σ a (ev n J x):=by
 unfold aev at h
 cases x with
 | tmp t =>
  dsimp only at h
  show Rel σ a (cond (Nat.blt t n) (J t) undef)
  cases hb:Nat.blt t n with
  | true=>rw [hb] at h;exact hE t a h
  | false=>rw [hb] at h;cases h
 | const v=>exact Qoj h
 | global g =>
  dsimp only at h
  cases hb:Nat.blt g 64 with
  | true =>
   rw [hb] at h;cases h
   rw [Qbg,decide_eq_true_eq] at hb
   obtain ⟨e,he⟩:=hG g hb
   exact .p he
  | false=>rw [hb] at h;cases h
 | func f=>cases h;exact .fn .nil
theorem HE.of {J:Env} (hE:Qgm σ env J) (hG:Gl σ) (xs:List Operand):HE n env (ev n J) σ xs:=fun _ _ _ h=>QeP hE hG h
theorem HE.mono {σ':Sig} {xs:List Operand} (h:HE n env e σ xs) (hl:Le σ σ'):HE n env e σ' xs:=fun x hx a ha=>(h x hx a ha).mono hl
theorem HE.sub {xs ys:List Operand} (h:HE n env e σ xs) (hs:∀ y∈ys,y∈xs):HE n env e σ ys:=fun x hx=>h x (hs x hx)
theorem Qfn:∀ {xs:List Operand} {l:List AV},HE n env e σ xs->aevs n env xs=some l->RelL σ l (xs.map e)
 | [],l,_,h=>by cases h;exact .nil
 | x :: xs,l,H,h=>by
  have h:((aev n env x).bind fun a=>(aevs n env xs).map fun l=>a :: l)=some l:=h
  cases h1:aev n env x with
  | none=>rw [h1] at h;cases h
  | some a =>
   cases h2:aevs n env xs with
   | none=>rw [h1,h2] at h;cases h
   | some l' =>
    rw [h1,h2] at h;cases h
    exact .cons (H x (by simp) a h1) (Qfn (H.sub fun y hy=>by simp [hy]) h2)
inductive RelP (σ:Sig):List (Nat × AV)->List (Nat × Value)->Prop where
 | nil:RelP σ [] []
 | cons {i:Nat} {a:AV} {v:Value} {l:List (Nat × AV)} {vs:List (Nat × Value)} (h:Rel σ a v) (t:RelP σ l vs):RelP σ ((i,a) :: l) ((i,v) :: vs)
theorem QjY:∀ {xs:List (Nat × Operand)} {l:List (Nat × AV)},HE n env e σ (xs.map (·.2))->aevp n env xs=some l->RelP σ l (xs.map fun (p:Nat × Operand)=>(p.1,e p.2))
 | [],l,_,h=>by cases h;exact .nil
 | x :: xs,l,H,h=>by
  have h:((aev n env x.2).bind fun a=>(aevp n env xs).map fun l=>(x.1,a) :: l)=some l:=h
  cases h1:aev n env x.2 with
  | none=>rw [h1] at h;cases h
  | some a =>
   cases h2:aevp n env xs with
   | none=>rw [h1,h2] at h;cases h
   | some l' =>
    rw [h1,h2] at h;cases h
    exact .cons (H x.2 (by simp) a h1) (QjY (H.sub fun y hy=>by simp at hy ⊢;exact .inr hy) h2)
theorem Quz {x:Operand} {a:AV} (H:HE n env e σ [x]) (h:aev n env x=some a):Qba P (.move x) e w σ a:=⟨_,H x (by simp) a h,fun _=>rfl⟩
theorem QpX {x:Operand} {a:AV} (H:HE n env e σ [x]) (h:aev n env x=some a):Qba P (.assign x) e w σ a:=⟨_,H x (by simp) a h,fun _=>rfl⟩
theorem Quq {c x y:Operand} {a:AV} (H:HE n env e σ [c,x,y]) (h:o_pick n env c x y=some a):Qba P (.pick c x y) e w σ a:=by
 unfold o_pick at h
 cases hc:aev n env c with
 | none=>rw [hc] at h;cases h
 | some v =>
  rw [hc] at h
  have hr:=H c (by simp) v hc
  cases v<;>first|cases h|skip
  rename_i t
  generalize he:e c=ec at hr
  cases hr
  cases t with
  | true =>
   refine ⟨e x,H x (by simp) a h,fun ty=>?_⟩
   simp only [X,execOp,he,asBool,Sem.run_bind,Sem.run_pure,Result.andThen_ok,if_true]
  | false =>
   refine ⟨e y,H y (by simp) a h,fun ty=>?_⟩
   simp only [X,execOp,he,asBool,Sem.run_bind,Sem.run_pure,Result.andThen_ok,Bool.false_eq_true,if_false]
theorem Qwt {t:Nat} {u:UnOp} {x:Operand} {a:AV} (H:HE n env e σ [x]) (h:o_un n env u x=some a):Qba P (.unOp u t x) e w σ a:=by
 unfold o_un at h
 cases hx:aev n env x with
 | none=>rw [hx] at h;cases h
 | some v =>
  rw [hx] at h
  have hr:=H x (by simp) v hx
  generalize he:e x=ex at hr
  cases v<;>first|cases h|skip
  ·rename_i t
   cases hr
   cases u<;>first|cases h|skip
   refine ⟨_,.b _,fun ty=>?_⟩
   simp only [X,execOp,he,Op.unary,Sem.run_bind,Sem.run_pure,Result.andThen_ok]
  rename_i k a'
  cases hr
  cases u<;>first|(simp at h;done)|skip
  ·simp only [Option.some.injEq] at h
   subst h
   refine ⟨_,.i _ _,fun ty=>?_⟩
   rw [QgP]
   simp only [X,execOp,he,Op.unary,Op.intArith,Sem.run_bind,Sem.run_pure,Result.andThen_ok]
   rfl
  dsimp only at h
  cases hs:k.signed with
  | true=>rw [hs] at h;cases h
  | false =>
   rw [hs] at h
   simp only [cond_false,bitX] at h
   cases hn:natI a' with
   | none=>rw [hn] at h;cases h
   | some q =>
    rw [hn] at h
    simp only [Option.bind_some] at h
    cases hb:Nat.blt q (lim k) with
    | false=>rw [hb] at h;cases h
    | true =>
     rw [hb] at h;cases h
     rw [Qbg,decide_eq_true_eq] at hb
     have hq:=Qcn hn
     subst hq
     refine ⟨_,.i _ _,fun ty=>?_⟩
     have hk:=Qt7 k hs q hb
     have h2:(Op.unary .xor (.int k (q:Int))).run P w = .ok (.int k (Int.ofNat (Nat.sub (Nat.sub (lim k) 1) q))) w:=by
      rw [← hk]
      simp only [Op.unary,hs,Bool.false_eq_true,if_false,Op.intBits,Sem.run_pure]
     simp only [X,execOp,he,Sem.run_bind,h2,Result.andThen_ok,Sem.run_pure]
theorem Qrr {j:IntKind} {p q:Int} {a:AV} (r:Nat->Nat->Nat) (h:((natI p).bind fun x=>(natI q).bind fun y=>cond (Nat.blt x (lim j)&&Nat.blt y (lim j)) (some (Int.ofNat (r x y))) none).map (AV.i j)=some a) :
  ∃ x y:Nat,p=(x:Int)/\q=(y:Int)/\x<lim j/\y<lim j/\a = .i j (Int.ofNat (r x y)):=by
 cases hp:natI p with
 | none=>rw [hp] at h;cases h
 | some x =>
 cases hq:natI q with
 | none=>rw [hp,hq] at h;cases h
 | some y =>
 rw [hp,hq] at h
 simp only [Option.bind_some] at h
 cases hb:(Nat.blt x (lim j)&&Nat.blt y (lim j)) with
 | false=>rw [hb] at h;cases h
 | true =>
  rw [hb] at h;cases h
  rw [Bool.and_eq_true,Qbg,Qbg,decide_eq_true_eq,decide_eq_true_eq] at hb
  exact ⟨x,y,Qcn hp,Qcn hq,hb.1,hb.2,rfl⟩
theorem Qnp {op:BinOp} {t u:Nat} {x y:Operand} {a:AV} {j k:IntKind} {p q:Int} (fin:∀ V,Rel σ a V->(Go.binOp op t (.int j p) (.int k q)).run P w = .ok V w->Qba P (.binOp op t x y u) e w σ a)
  (h:cond (Nat.beq (kd j) (kd k)) (intA op j p q) none=some a) (n1:op≠.shl) (n2:op≠.shr):Qba P (.binOp op t x y u) e w σ a:=by
 cases hk:Nat.beq (kd j) (kd k) with
 | false=>rw [hk] at h;cases h
 | true =>
  rw [hk] at h
  have:=Qg1 (Nat.eq_of_beq_eq_true hk)
  subst this
  clear hk
  simp only [cond_true] at h
  cases op<;>simp only [intA] at h<;>first|(exact absurd rfl n1;done)|(exact absurd rfl n2;done)|skip
  case add=>cases h;refine fin _ (.i _ _) ?_;rw [QgP];simp only [Go.binOp,ne_eq,not_true_eq_false,if_false,Op.intArith,Sem.run_pure];rfl
  case sub=>cases h;refine fin _ (.i _ _) ?_;rw [QgP];simp only [Go.binOp,ne_eq,not_true_eq_false,if_false,Op.intArith,Sem.run_pure];rfl
  case mul=>cases h;refine fin _ (.i _ _) ?_;rw [QgP];simp only [Go.binOp,ne_eq,not_true_eq_false,if_false,Op.intArith,Sem.run_pure];rfl
  case quo =>
   rw [QdA] at h
   by_cases h0:q=0
   ·simp [h0] at h
   simp only [h0,decide_false,cond_false,Option.some.injEq] at h
   subst h
   refine fin _ (.i _ _) ?_;rw [QgP];simp only [Go.binOp,ne_eq,not_true_eq_false,if_false,Op.intDiv,h0,Sem.run_pure]
  case rem =>
   rw [QdA] at h
   by_cases h0:q=0
   ·simp [h0] at h
   simp only [h0,decide_false,cond_false,Option.some.injEq] at h
   subst h
   refine fin _ (.i _ _) ?_;simp only [Go.binOp,ne_eq,not_true_eq_false,if_false,Op.intDiv,h0,Sem.run_pure]
  case eql=>cases h;refine fin _ (.b _) ?_;rw [QdA];rw [binOp_eql];rfl
  case neq=>cases h;refine fin _ (.b _) ?_;rw [QdA];rw [binOp_neq];rfl
  case lss=>cases h;refine fin _ (.b _) ?_;rw [QfL];rw [binOp_lss];rfl
  case gtr=>cases h;refine fin _ (.b _) ?_;rw [QfL];rw [binOp_gtr];rfl
  case leq =>
   cases h;refine fin _ (.b _) ?_
   rw [QfL,binOp_leq]
   have:(!decide (q<p))=decide (p<=q):=by rw [← decide_not,decide_eq_decide];omega
   rw [this];rfl
  case geq =>
   cases h;refine fin _ (.b _) ?_
   rw [QfL,binOp_geq]
   have:(!decide (p<q))=decide (q<=p):=by rw [← decide_not,decide_eq_decide];omega
   rw [this];rfl
  case and =>
   obtain ⟨x',y',rfl,rfl,hx,hy,rfl⟩:=Qrr Nat.land h
   refine fin _ (.i _ _) ?_;rw [binOp_and,intBits_and,(Qol j x' y' hx hy).1];rfl
  case or =>
   obtain ⟨x',y',rfl,rfl,hx,hy,rfl⟩:=Qrr Nat.lor h
   refine fin _ (.i _ _) ?_;rw [binOp_or,intBits_or,(Qol j x' y' hx hy).2.1];rfl
  case xor =>
   obtain ⟨x',y',rfl,rfl,hx,hy,rfl⟩:=Qrr Nat.xor h
   refine fin _ (.i _ _) ?_;rw [binOp_xor,intBits_xor,(Qol j x' y' hx hy).2.2];rfl
  all_goals
   exfalso
   simp only [bitA] at h
   cases hp:natI p with
   | none=>rw [hp] at h;cases h
   | some x' =>
   cases hq:natI q with
   | none=>rw [hp,hq] at h;cases h
   | some y' =>
   rw [hp,hq] at h
   simp only [Option.bind_some,Option.map_eq_some_iff] at h
   obtain ⟨z,h,_⟩:=h
   cases hb:(Nat.blt x' (lim j)&&Nat.blt y' (lim j))<;>rw [hb] at h<;>cases h
theorem QjB {op:BinOp} {t u:Nat} {x y:Operand} {a:AV} {j k:IntKind} {p q:Int} (e1:e x = .int j p) (e2:e y = .int k q) (h:binA C op t (.i j p) (.i k q)=some a):Qba P (.binOp op t x y u) e w σ a:=by
 have fin:∀ V,Rel σ a V->(Go.binOp op t (.int j p) (.int k q)).run P w = .ok V w->Qba P (.binOp op t x y u) e w σ a:=fun V hr hV=>⟨V,hr,fun ty=>by
  simp only [X,execOp,e1,e2,eqGuard_at_int,Sem.run_bind,Sem.run_pure,Result.andThen_ok,hV]⟩
 unfold binA at h
 dsimp only at h
 cases op
 case shl =>
  dsimp only at h
  cases hq:natI q with
  | none=>rw [hq] at h;cases h
  | some y' =>
   rw [hq] at h
   have:=Qcn hq
   subst this
   simp only [Option.bind_some] at h
   cases hb:Nat.ble y' j.bits with
   | false=>rw [hb] at h;cases h
   | true =>
    rw [hb] at h;cases h
    have hb:=QQ8 hb
    refine fin _ (.i _ _) ?_
    rw [QgP,binOp_shl,shift_shl j k p y' (by omega) (by omega)]
    rfl
 case shr =>
  dsimp only at h
  cases hq:natI q with
  | none=>rw [hq] at h;cases h
  | some y' =>
  cases hp:natI p with
  | none=>rw [hq,hp] at h;cases h
  | some x' =>
   rw [hq,hp] at h
   have:=Qcn hq
   subst this
   have:=Qcn hp
   subst this
   simp only [Option.bind_some] at h
   cases hb:Nat.ble y' j.bits with
   | false=>rw [hb] at h;cases h
   | true =>
    rw [hb] at h;cases h
    have hb:=QQ8 hb
    refine fin _ (.i _ _) ?_
    rw [binOp_shr,shift_shr j k _ y' (by omega) (by omega)]
    have:((x':Int)/2 ^ (y':Int).toNat)=Int.ofNat (Nat.shiftRight x' y'):=by
     have e1:Nat.shiftRight x' y'=x'/2 ^ y':=Nat.shiftRight_eq_div_pow x' y'
     rw [e1]
     simp
    rw [this];rfl
 all_goals exact Qnp fin h (by simp) (by simp)
theorem Qqp (l:List Nat):(byts l).toList=l.map UInt8.ofNat:=by
 unfold byts
 rw [ByteArray.toList_eq]
theorem Qk6 {l m:List Nat} (hl:∀ x∈l,x<256) (hm:∀ x∈m,x<256) (h:l.map UInt8.ofNat=m.map UInt8.ofNat):l=m:=by
 have h2:=congrArg (List.map UInt8.toNat) h
 have e:∀ q:List Nat,(∀ x∈q,x<256)->(q.map UInt8.ofNat).map UInt8.toNat=q:=by
  intro q hq
  rw [List.map_map]
  conv=>rhs;rw [← List.map_id q]
  apply List.map_congr_left
  intro x hx
  have:=hq x hx
  simp only [Function.comp,UInt8.toNat_ofNat',id]
  omega
 rwa [e l hl,e m hm] at h2
theorem Qmm {l m:List Nat} (hl:∀ x∈l,x<256) (hm:∀ x∈m,x<256):((byts l).toList == (byts m).toList)=beqL l m:=by
 rw [Qqp,Qqp,Qey]
 by_cases h:l=m
 ·subst h;simp
 have:¬l.map UInt8.ofNat=m.map UInt8.ofNat:=fun e=>h (Qk6 hl hm e)
 simp [h,this]
theorem Qok {op:BinOp} {r:Bool} {a:AV} (h:eqA op r=some a):(op = .eql/\a = .b r)∨(op = .neq/\a = .b (!r)):=by
 cases op<;>simp only [eqA] at h<;>first|(cases h;done)|(cases h;simp)
theorem Qv0 (HC:CfgOk C P) {op:BinOp} {t u:Nat} {x y:Operand} {a:AV} (H:HE n env e σ [x,y]) (h:o_bin C n env op t x y=some a):Qba P (.binOp op t x y u) e w σ a:=by
 unfold o_bin at h
 cases hx:aev n env x with
 | none=>rw [hx] at h;cases h
 | some v1 =>
 cases hy:aev n env y with
 | none=>rw [hx,hy] at h;cases h
 | some v2 =>
 rw [hx,hy] at h
 have h:binA C op t v1 v2=some a:=h
 have r1:=H x (by simp) v1 hx
 have r2:=H y (by simp) v2 hy
 generalize e1:e x=V1 at r1
 generalize e2:e y=V2 at r2
 clear H hx hy
 by_cases hi:∃ j p k q,v1 = .i j p/\v2 = .i k q
 ·obtain ⟨j,p,k,q,rfl,rfl⟩:=hi
  cases r1;cases r2
  exact QjB e1 e2 h
 by_cases ht:∃ k j q,v1 = .tok k/\v2 = .i j q
 ·obtain ⟨k,j,q,rfl,rfl⟩:=ht
  cases r1;cases r2
  obtain ⟨p,h1,h2⟩:=HC.bop op k j q a h
  exact QjB (e1.trans h1) e2 (h2 t)
 by_cases hs:∃ l m,v1 = .s l/\v2 = .s m
 ·obtain ⟨l,m,rfl,rfl⟩:=hs
  cases r1 with|s _ hl=>?_
  cases r2 with|s _ hm=>?_
  have fin:∀ V,Rel σ a V->(Go.binOp op t (.string (byts l)) (.string (byts m))).run P w = .ok V w->Qba P (.binOp op t x y u) e w σ a:=fun V hr hV=>⟨V,hr,fun ty=>by
   simp only [X,execOp,e1,e2,eqGuard_at_string,Sem.run_bind,Sem.run_pure,Result.andThen_ok,hV]⟩
  unfold binA at h
  dsimp only at h
  cases op<;>dsimp only at h<;>first|(cases h;done)|skip
  ·cases hb:Nat.ble (l.length+m.length) 1000000 with
   | false=>rw [hb] at h;cases h
   | true =>
    rw [hb] at h;cases h
    have hb:=QQ8 hb
    refine fin _ (.s _ (fun x hx=>by rcases List.mem_append.1 hx with h|h;exact hl x h;exact hm x h)) ?_
    rw [binOp_string_add]
    unfold Op.stringOp
    have:¬(((byts l).size+(byts m).size:Nat):Int) > IntKind.i64.max:=by
     show ¬(((l.map UInt8.ofNat).toArray.size+(m.map UInt8.ofNat).toArray.size:Nat):Int) > 9223372036854775807
     simp;omega
    simp only [this,if_false,Sem.run_pure]
    have:byts l++byts m=byts (l++m):=by
     apply ByteArray.ext;simp [byts]
    rw [this]
  ·cases h
   refine fin _ (.b _) ?_
   rw [binOp_string_eql,Qmm hl hm];rfl
  ·cases h
   refine fin _ (.b _) ?_
   rw [binOp_string_neq,Qmm hl hm];rfl
  cases h
  refine fin _ (.b _) ?_
  rw [binOp_string_lss,Qqp,Qqp,← QqE l m hl hm];rfl
 by_cases hbb:∃ p q,v1 = .b p/\v2 = .b q
 ·obtain ⟨p,q,rfl,rfl⟩:=hbb
  cases r1;cases r2
  unfold binA at h
  dsimp only at h
  cases hd:und C t with
  | none=>rw [hd] at h;cases h
  | some d =>
   rw [hd] at h
   cases d<;>dsimp only at h<;>first|(cases h;done)|skip
   rcases Qok h with ⟨rfl,rfl⟩|⟨rfl,rfl⟩
   ·exact ⟨_,.b _,fun ty=>by simp only [X,execOp,e1,e2,eqGuard_at_bool,Sem.run_bind,Sem.run_pure,Result.andThen_ok,run_eql_bool w t p q (Qdl HC hd)]⟩
   exact ⟨_,.b _,fun ty=>by simp only [X,execOp,e1,e2,eqGuard_at_bool,Sem.run_bind,Sem.run_pure,Result.andThen_ok,run_neq_bool w t p q (Qdl HC hd)]⟩
 by_cases ha:∃ p q,v1 = .ag p/\v2 = .ag q
 ·obtain ⟨p,q,rfl,rfl⟩:=ha
  cases r1 with|ag q1=>?_
  cases r2 with|ag q2=>?_
  unfold binA at h
  dsimp only at h
  cases he:C.eqs t with
  | none=>rw [he] at h;cases h
  | some sh =>
   rw [he] at h
   simp only [Option.bind_some] at h
   cases hsh:(beqL (p.map shp) sh&&beqL (q.map shp) sh) with
   | false=>rw [hsh] at h;cases h
   | true =>
   rw [hsh] at h
   simp only [cond_true] at h
   rw [Qey,Qey,Bool.and_eq_true,decide_eq_true_iff,decide_eq_true_iff] at hsh
   cases hq:beqC p q with
   | none=>rw [hq] at h;cases h
   | some r =>
    rw [hq] at h
    simp only [Option.bind_some] at h
    obtain ⟨hg,hE⟩:=HC.eqs t sh he σ p q _ _ r q1 q2 hsh.1 hsh.2 hq
    have hE:=hE w
    simp only [Op.equal,Op.maxDepth] at hE
    rcases Qok h with ⟨rfl,rfl⟩|⟨rfl,rfl⟩
    ·exact ⟨_,.b _,fun ty=>by simp only [X,execOp,e1,e2,run_eqGuard_agg w .eql t x y _ _ hg,Sem.run_bind,Sem.run_pure,Result.andThen_ok,run_eql_struct,hE]⟩
    exact ⟨_,.b _,fun ty=>by simp only [X,execOp,e1,e2,run_eqGuard_agg w .neq t x y _ _ hg,Sem.run_bind,Sem.run_pure,Result.andThen_ok,run_neq_struct,hE]⟩
 have h:((und C t).bind fun d=>(QuU d v1 v2).bind (eqA op))=some a:=by
  unfold binA at h
  split at h<;>first|exact h|skip
  ·exact (hi ⟨_,_,_,_,rfl,rfl⟩).elim
  ·exact (ht ⟨_,_,_,rfl,rfl⟩).elim
  ·exact (hs ⟨_,_,rfl,rfl⟩).elim
  ·exact (hbb ⟨_,_,rfl,rfl⟩).elim
  exact (ha ⟨_,_,rfl,rfl⟩).elim
 clear hi ht hs hbb ha
 cases hd:und C t with
 | none=>rw [hd] at h;cases h
 | some d =>
 rw [hd] at h
 simp only [Option.bind_some] at h
 cases hn:QuU d v1 v2 with
 | none=>rw [hn] at h;cases h
 | some r =>
 rw [hn] at h
 simp only [Option.bind_some] at h
 have hu:=Qdl HC hd
 have fin:(∀ b,eqGuard op t x y V1 V2=pure ()/\(Go.binOp .eql t V1 V2).run P w = .ok (.bool r) w/\(Go.binOp .neq t V1 V2).run P w = .ok (.bool (!r)) w∨b=0)->Qba P (.binOp op t x y u) e w σ a:=by
  intro hh
  obtain ⟨h1,h2,h3⟩:=(hh 1).resolve_right (by simp)
  rcases Qok h with ⟨rfl,rfl⟩|⟨rfl,rfl⟩
  ·exact ⟨_,.b _,fun ty=>by simp only [X,execOp,e1,e2,h1,Sem.run_bind,Sem.run_pure,Result.andThen_ok,h2]⟩
  exact ⟨_,.b _,fun ty=>by simp only [X,execOp,e1,e2,h1,Sem.run_bind,Sem.run_pure,Result.andThen_ok,h3]⟩
 have ptr:∀ d' (q:Option Addr),P.underlying t=some (.pointer d')->(Go.binOp .eql t (.pointer q) (.pointer none)).run P w = .ok (.bool q.isNone) w/\(Go.binOp .neq t (.pointer q) (.pointer none)).run P w = .ok (.bool (!q.isNone)) w:=fun d' q hd=>by
  have hk:Ud P t (.pointer d'):=fun w=>by rw [run_underlying hd]
  constructor
  ·cases q<;>simp only [Go.binOp,Sem.run_bind,Qd5 hk,Result.andThen_ok,Sem.run_pure]
  cases q<;>simp only [Go.binOp,Sem.run_bind,Qd5 hk,Result.andThen_ok,Sem.run_pure]
 have mp:∀ d1 d2 (q:Option Nat),P.underlying t=some (.map d1 d2)->(Go.binOp .eql t (.map q) (.map none)).run P w = .ok (.bool q.isNone) w/\(Go.binOp .neq t (.map q) (.map none)).run P w = .ok (.bool (!q.isNone)) w:=fun d1 d2 q hd=>by
  have hk:Ud P t (.map d1 d2):=fun w=>by rw [run_underlying hd]
  constructor
  ·cases q<;>simp only [Go.binOp,Sem.run_bind,Qhx hk,Result.andThen_ok,Sem.run_pure]
  cases q<;>simp only [Go.binOp,Sem.run_bind,Qhx hk,Result.andThen_ok,Sem.run_pure]
 have sls:∀ d' (q:Option Addr) l c,P.underlying t=some (.slice d')->(Go.binOp .eql t (.slice q l c) (.slice none 0 0)).run P w = .ok (.bool q.isNone) w/\(Go.binOp .neq t (.slice q l c) (.slice none 0 0)).run P w = .ok (.bool (!q.isNone)) w:=fun d' q l c hd=>by
  constructor
  ·simp only [Go.binOp,Sem.run_bind,run_equal_slice_nil w t d' q l c hd,Result.andThen_ok,Sem.run_pure]
  simp only [Go.binOp,Sem.run_bind,run_equal_slice_nil w t d' q l c hd,Result.andThen_ok,Sem.run_pure]
 unfold QuU at hn
 cases d<;>dsimp only at hn<;>first|(cases hn;done)|skip
 ·cases v2<;>dsimp only at hn<;>first|(cases hn;done)|skip
  cases r2
  cases v1<;>dsimp only at hn<;>first|(cases hn;done)|skip
  all_goals
   cases hn;cases r1
   exact fin fun _=>.inl ⟨eqGuard_at_pointer ..,ptr _ _ hu⟩
 ·cases v2<;>dsimp only at hn<;>first|(cases hn;done)|skip
  cases r2
  cases v1<;>dsimp only at hn<;>first|(cases hn;done)|skip
  all_goals
   cases hn;cases r1
   exact fin fun _=>.inl ⟨eqGuard_at_slice ..,sls _ _ _ _ hu⟩
 cases v2<;>dsimp only at hn<;>first|(cases hn;done)|skip
 cases r2
 cases v1<;>dsimp only at hn<;>first|(cases hn;done)|skip
 all_goals
  cases hn;cases r1
  exact fin fun _=>.inl ⟨eqGuard_at_map ..,mp _ _ _ hu⟩
end
end Go.Ce
namespace Go.Ce
open Go.RowKit Go.Vx
variable [Tok]
theorem bind_some {α β:Type} {o:Option α} {f:α->Option β} {b:β} (h:o.bind f=some b):∃ a,o=some a/\f a=some b:=by
 cases o with
 | none=>cases h
 | some a=>exact ⟨a,rfl,h⟩
theorem map_some {α β:Type} {o:Option α} {f:α->β} {b:β} (h:o.map f=some b):∃ a,o=some a/\f a=b:=by
 cases o with
 | none=>cases h
 | some a=>exact ⟨a,rfl,by simpa using h⟩
theorem Qam {α:Type} {c:Bool} {o:Option α} {b:α} (h:cond c o none=some b):c=true/\o=some b:=by
 cases c with
 | true=>exact ⟨rfl,h⟩
 | false=>cases h
theorem Qco {α:Type} {c:Bool} {o:Option α} {b:α} (h:cond c none o=some b):c=false/\o=some b:=by
 cases c with
 | false=>exact ⟨rfl,h⟩
 | true=>cases h
theorem QhP {a b:Nat} (h:Nat.blt a b=true):a<b:=by rwa [Qbg,decide_eq_true_eq] at h
section
variable {C:Cfg} {P:Program} (HC:CfgOk C P) {n:Nat} {env:Tr AV} {e:Operand->Value} {σ:Sig} {w:World} {m:Mem} {B:Nat} {w0:World} {M:Nat->Prop} [Inv w0 M] {fr:Nat->Res}
theorem Good.row {h:Hp} (hg:Good B w0 M σ fr h w) {x:Nat} {cs:List AV} {T k:Nat} {ex:Bool} (hx:h x=some (.row cs T k ex)) :
  ∃ b e vs rest,σ x=some (b,e)/\w.heap[b]?=some (.cells (vs++rest).toArray T (0,0))/\RelL σ cs vs/\rest.length=cond ex (e*k) 0:=by
 obtain ⟨b,e,o,h1,h2,vs,rest,h3,h4,h5⟩:=hg.block hx rfl
 subst h5
 exact ⟨b,e,vs,rest,h1,h2,h3,h4⟩
theorem Qlw {b T:Nat} {vs rest:List Value} (h:w.heap[b]?=some (.cells (vs++rest).toArray T (0,0))) {j:Nat} {v:Value} (hj:vs[j]?=some v):w.cell? ⟨b,j,none⟩=some v:=by
 rw [cell_of_row w b j _ T _ h]
 have:j<vs.length:=Qav hj
 simp [List.getElem?_append_left this,hj]
theorem QeX {b T:Nat} {vs rest:List Value} (h:w.heap[b]?=some (.cells (vs++rest).toArray T (0,0))) (off k:Nat):∀ (j:Nat) (v:Value),((vs.drop off).take k)[j]?=some v->w.cell? ⟨b,off+j,none⟩=some v:=fun j v hj=>by
 rw [List.getElem?_take] at hj
 split at hj
 ·exact Qlw h (by simpa [List.getElem?_drop] using hj)
 cases hj
theorem Qf9 {s f:Nat} {fd:Field} (h:fieldA C s f=some fd):∃ fs:Array Field,und C s=some (.struct fs)/\fs[f]?=some fd:=by
 unfold fieldA at h
 cases hs:und C s with
 | none=>rw [hs] at h;cases h
 | some d =>
  rw [hs] at h
  cases d<;>dsimp only at h<;>first|(cases h;done)|skip
  exact ⟨_,rfl,by simpa using h⟩
include HC
theorem Qmu {t:Nat} {x:Operand} {a:AV} (H:HE n env e σ [x]) (hg:Good B w0 M σ fr m.h.get w) (h:o_load C n env m t x=some a):Qba P (.load t x) e w σ a:=by
 unfold o_load at h
 cases hx:aev n env x with
 | none=>rw [hx] at h;cases h
 | some v =>
 rw [hx] at h
 have r1:=H x (by simp) v hx
 generalize e1:e x=V1 at r1
 cases v<;>dsimp only at h<;>first|(cases h;done)|skip
 ·rename_i q
  obtain ⟨g,hgg,z1⟩:=bind_some h
  obtain ⟨hg0,z2⟩:=Qco z1
  obtain ⟨q',hq,z3⟩:=map_some z2
  rw [← z3]
  obtain ⟨b,o,hk,h1,hcell⟩:=HC.tk.ld _ _ hq
  have hr:=r1
  cases hr
  have hc:=hcell w0 M Inv.ok w _ hg.own
  refine ⟨Tok.v q',.tok q' h1,fun ty=>?_⟩
  have hag:=QjK HC hgg
  rw [hg0] at hag
  have hl:(loadVar t ⟨b,o,none⟩).run P w = .ok (Tok.v q') w:=by simp only [loadVar,Sem.run_bind,hag w,Result.andThen_ok,Bool.false_eq_true,if_false,run_load,hc]
  rw [hk] at e1
  simp only [X,execOp,e1,Instr.loadAt,Instr.sureAddr,Sem.run_bind,Sem.run_pure,Result.andThen_ok,hl]
 rename_i nm off
 cases r1 with|@p _ _ b ee hσ=>?_
 unfold loadA at h
 cases hb:m.h.get nm with
 | none=>rw [hb] at h;cases h
 | some blk =>
 rw [hb] at h
 cases blk<;>dsimp only at h<;>first|(cases h;done)|skip
 rename_i cs T k' ex
 obtain ⟨b',e',vs,rest,h1,h2,h3,h4⟩:=hg.row hb
 rw [hσ] at h1;cases h1
 obtain ⟨k,hk,h⟩:=bind_some h
 obtain ⟨g,hgg,h⟩:=bind_some h
 cases g with
 | false =>
  obtain ⟨V,hV,hr⟩:=h3.at h
  refine ⟨V,hr,fun ty=>?_⟩
  have hc:=Qlw h2 hV
  have hl:(loadVar t ⟨b,off,none⟩).run P w = .ok V w:=by simp only [loadVar,Sem.run_bind,QjK HC hgg w,Result.andThen_ok,Bool.false_eq_true,if_false,run_load,hc]
  simp only [X,execOp,e1,Instr.loadAt,Instr.sureAddr,Sem.run_bind,Sem.run_pure,Result.andThen_ok,hl]
 | true =>
  simp only [cond_true] at h
  obtain ⟨hle,h⟩:=Qam h
  cases h
  have hle:=QQ8 hle
  refine ⟨_,.ag ((h3.drop off).take k),fun ty=>?_⟩
  have hl:=QdN (w:=w) (P:=P) ⟨Qfx HC hk,QjK HC hgg⟩ b off ((vs.drop off).take k) (by have:=h3.len;simp only [List.length_take,List.length_drop];omega) (QeX h2 off k)
  simp only [X,execOp,e1,Instr.loadAt,Instr.sureAddr,Sem.run_bind,Sem.run_pure,Result.andThen_ok,hl]
omit HC in
theorem Qvw {x:Operand} {a:AV} (H:HE n env e σ [x]) (h:o_nil n env x=some a):Qba P (.nilCheck x) e w σ a:=by
 unfold o_nil at h
 cases hx:aev n env x with
 | none=>rw [hx] at h;cases h
 | some v =>
 rw [hx] at h
 have r1:=H x (by simp) v hx
 generalize e1:e x=V1 at r1
 cases v<;>dsimp only at h<;>first|(cases h;done)|skip
 all_goals
  cases h
  have r2:=r1
  cases r1
  exact ⟨_,r2,fun ty=>by simp only [X,execOp,e1,Sem.run_pure]⟩
omit HC in
theorem Qvx {x:Operand} {i:Nat} {a:AV} (H:HE n env e σ [x]) (h:o_ext n env x i=some a):Qba P (.extract x i) e w σ a:=by
 unfold o_ext at h
 cases hx:aev n env x with
 | none=>rw [hx] at h;cases h
 | some v =>
 rw [hx] at h
 have r1:=H x (by simp) v hx
 generalize e1:e x=V1 at r1
 cases v<;>dsimp only at h<;>first|(cases h;done)|skip
 cases r1 with|tu q=>?_
 obtain ⟨V,hV,hr⟩:=q.at h
 exact ⟨V,hr,fun ty=>by simp only [X,execOp,e1,Instr.extract,List.getElem?_toArray,hV,Sem.run_bind,Sem.run_pure,Result.andThen_ok]⟩
theorem QtH {s d:Nat} {x:Operand} {a:AV} (H:HE n env e σ [x]) (h:o_conv C n env s d x=some a):Qba P (.convert s d x) e w σ a:=by
 unfold o_conv at h
 cases hx:aev n env x with
 | none=>rw [hx] at h;cases h
 | some v =>
 rw [hx] at h
 have r1:=H x (by simp) v hx
 generalize e1:e x=V1 at r1
 cases v<;>dsimp only at h<;>first|(cases h;done)|skip
 ·rename_i q
  cases hd:und C d with
  | none=>rw [hd] at h;cases h
  | some D =>
  rw [hd] at h
  cases D<;>dsimp only at h<;>first|(cases h;done)|skip
  obtain ⟨hs,z1⟩:=Qam h
  obtain ⟨q',hq,z2⟩:=map_some z1
  rw [← z2]
  obtain ⟨i,p,hk,hv⟩:=HC.tk.cv _ _ _ hq
  cases hs':und C s with
  | none=>rw [hs'] at hs;cases hs
  | some S =>
  refine ⟨Tok.v q',.tok q' (by rw [hv];rfl),fun ty=>?_⟩
  cases r1
  rw [hk] at e1
  rw [hv]
  simp only [X,execOp,e1,convert,Sem.run_bind,Result.andThen_ok,Qbm HC hs' w,Qbm HC hd w]
  rfl
 rotate_left
 ·cases r1
  split at h
  ·rename_i hd
   split at h
   ·rename_i el hs
    split at h
    ·rename_i hel
     cases h
     refine ⟨.string (byts []),.s [] (by simp),fun ty=>?_⟩
     simp only [X,execOp,e1,Sem.run_bind,run_convert_bytes_nil w s el (Qdl HC hs) (Qdl HC hel) 0 0 d (Qdl HC hd),Result.andThen_ok,Sem.run_pure]
     rfl
    cases h
   cases h
  cases h
 cases r1
 cases hd:und C d with
 | none=>rw [hd] at h;cases h
 | some D =>
 rw [hd] at h
 cases D<;>dsimp only at h<;>first|(cases h;done)|skip
 obtain ⟨hs,h⟩:=Qam h
 cases h
 cases hs':und C s with
 | none=>rw [hs'] at hs;cases hs
 | some S =>
 refine ⟨_,.i _ _,fun ty=>?_⟩
 rw [QgP]
 simp only [X,execOp,e1,convert,Sem.run_bind,Result.andThen_ok,Qbm HC hs' w,Qbm HC hd w]
 rfl
theorem Qwv {s f:Nat} {x:Operand} {a:AV} (H:HE n env e σ [x]) (h:o_fa C n env s x f=some a):Qba P (.fieldAddr s x f) e w σ a:=by
 unfold o_fa at h
 cases hx:aev n env x with
 | none=>rw [hx] at h;cases h
 | some v =>
 rw [hx] at h
 have r1:=H x (by simp) v hx
 generalize e1:e x=V1 at r1
 cases v<;>dsimp only at h<;>first|(cases h;done)|skip
 rename_i nm off
 cases r1 with|@p _ _ b ee hσ=>?_
 obtain ⟨fd,hf,h⟩:=bind_some h
 obtain ⟨k,hk,h⟩:=bind_some h
 obtain ⟨h0,h⟩:=Qco h
 cases h
 obtain ⟨fs,h1,h2⟩:=Qf9 hf
 refine ⟨_,.p hσ,fun ty=>?_⟩
 have hk0:¬k=0:=fun e=>by subst e;cases h0
 have key:(Instr.fieldAt s (.pointer (some ⟨b,off,none⟩)) f).run P w = .ok (.pointer (some ⟨b,off+fd.offset,none⟩)) w:=by
  simp only [Instr.fieldAt,Sem.run_bind,Qbm HC h1 w,Result.andThen_ok,h2,Instr.sureAddr,Sem.run_pure,fieldPlace,Qfx HC hk w,hk0,if_false,QaR]
 simp only [X,execOp,e1,key,Sem.run_bind,Sem.run_pure,Result.andThen_ok]
theorem QoK {t off:Nat} {cs:List AV} {vs:List Value} {a:AV} (hr:RelL σ cs vs) (h:partA C t cs off=some a):∃ V,Rel σ a V/\∀ w,(part t vs.toArray off).run P w = .ok V w:=by
 unfold partA at h
 obtain ⟨k,hk,h⟩:=bind_some h
 obtain ⟨g,hgg,h⟩:=bind_some h
 cases g with
 | false =>
  obtain ⟨V,hV,hV2⟩:=hr.at h
  exact ⟨V,hV2,fun w=>by simp only [part,Sem.run_bind,QjK HC hgg w,Result.andThen_ok,Bool.false_eq_true,if_false,List.getElem?_toArray,hV,Sem.run_pure]⟩
 | true =>
  cases h
  refine ⟨_,.ag ((hr.drop off).take k),fun w=>?_⟩
  have:(vs.toArray.extract off (off+k))=((vs.drop off).take k).toArray:=by
   simp [List.extract_toArray,List.extract_eq_take_drop]
  simp only [part,Sem.run_bind,QjK HC hgg w,Qfx HC hk w,Result.andThen_ok,if_true,Sem.run_pure,this]
theorem Qsw {t f:Nat} {x:Operand} {a:AV} (H:HE n env e σ [x]) (h:o_field C n env t x f=some a):Qba P (.field t x f) e w σ a:=by
 unfold o_field at h
 cases hx:aev n env x with
 | none=>rw [hx] at h;cases h
 | some v =>
 rw [hx] at h
 have r1:=H x (by simp) v hx
 generalize e1:e x=V1 at r1
 cases v<;>dsimp only at h<;>first|(cases h;done)|skip
 cases r1 with|ag q=>?_
 obtain ⟨fd,hf,h⟩:=bind_some h
 obtain ⟨fs,h1,h2⟩:=Qf9 hf
 obtain ⟨V,hV,hV2⟩:=QoK HC q h
 exact ⟨V,hV,fun ty=>by simp only [X,execOp,e1,Instr.field,asAgg,Sem.run_bind,Qbm HC h1 w,Result.andThen_ok,h2,Sem.run_pure,hV2]⟩
theorem Qwq {t:Nat} {x ix:Operand} {a:AV} (H:HE n env e σ [x,ix]) (h:o_ia C n env t x ix=some a):Qba P (.indexAddr t x ix) e w σ a:=by
 unfold o_ia at h
 cases hi:aev n env ix with
 | none=>rw [hi] at h;cases h
 | some v2 =>
 rw [hi] at h
 have r2:=H ix (by simp) v2 hi
 generalize e2:e ix=V2 at r2
 cases v2<;>dsimp only at h<;>first|(cases h;done)|skip
 rename_i kk jj
 cases r2
 obtain ⟨j,hj,h⟩:=bind_some h
 have:=Qcn hj
 subst this
 cases hx:aev n env x with
 | none=>rw [hx] at h;cases h
 | some v =>
 rw [hx] at h
 have r1:=H x (by simp) v hx
 generalize e1:e x=V1 at r1
 cases v<;>dsimp only at h<;>first|(cases h;done)|skip
 ·rename_i q
  cases hd:und C t with
  | none=>rw [hd] at h;cases h
  | some d =>
  rw [hd] at h
  cases d<;>dsimp only at h<;>first|(cases h;done)|skip
  obtain ⟨j2,hj2,z0⟩:=bind_some h
  have ej:=Qcn hj2
  have ej2:j2=j:=by omega
  rw [ej2] at z0
  obtain ⟨k,hk,z1⟩:=bind_some z0
  obtain ⟨hk1,z2⟩:=Qam z1
  obtain ⟨q',hq,z3⟩:=map_some z2
  rw [← z3]
  have hk1:=Nat.eq_of_beq_eq_true hk1
  rw [hk1] at hk
  obtain ⟨a,l,c,hs,hj,hp⟩:=HC.tk.ix _ _ _ hq
  refine ⟨Tok.v q',.tok q' (by rw [hp];rfl),fun ty=>?_⟩
  cases r1
  rw [hs] at e1
  rw [hp]
  simp only [X,execOp,e1,e2,Instr.indexAt,asIntOf,Instr.sureAddr,Sem.run_bind,Sem.run_pure,Result.andThen_ok,Qbm HC hd w]
  rw [if_pos ⟨by omega,by omega⟩]
  simp only [Sem.run_bind,Qfx HC hk w,Result.andThen_ok,Sem.run_pure,Int.toNat_natCast,Nat.mul_one]
 ·rename_i nm off
  cases r1 with|@p _ _ b ee hσ=>?_
  cases hd:und C t with
  | none=>rw [hd] at h;cases h
  | some d =>
  rw [hd] at h
  cases d<;>dsimp only at h<;>first|(cases h;done)|skip
  obtain ⟨hb,h⟩:=Qam h
  obtain ⟨k,hk,h⟩:=map_some h
  subst h
  have hb:=QhP hb
  refine ⟨_,.p hσ,fun ty=>?_⟩
  simp only [X,execOp,e1,e2,Instr.indexAt,asIntOf,Instr.sureAddr,Sem.run_bind,Sem.run_pure,Result.andThen_ok,Qbm HC hd w]
  rw [if_pos ⟨by omega,by omega⟩]
  simp only [Sem.run_bind,Qfx HC hk w,Result.andThen_ok,Sem.run_pure,QaR,Int.toNat_natCast]
 rename_i nm off len cap ex
 cases r1 with|@sl _ _ _ _ b ee _ hσ=>?_
 cases hd:und C t with
 | none=>rw [hd] at h;cases h
 | some d =>
 rw [hd] at h
 cases d<;>dsimp only at h<;>first|(cases h;done)|skip
 obtain ⟨hb,h⟩:=Qam h
 obtain ⟨k,hk,h⟩:=map_some h
 subst h
 have hb:=QhP hb
 refine ⟨_,.p hσ,fun ty=>?_⟩
 simp only [X,execOp,e1,e2,Instr.indexAt,asIntOf,Instr.sureAddr,Sem.run_bind,Sem.run_pure,Result.andThen_ok,Qbm HC hd w]
 rw [if_pos ⟨by omega,by omega⟩]
 simp only [Sem.run_bind,Qfx HC hk w,Result.andThen_ok,Sem.run_pure,QaR,Int.toNat_natCast]
theorem Qwo {t:Nat} {x ix:Operand} {a:AV} (H:HE n env e σ [x,ix]) (h:o_ix C n env t x ix=some a):Qba P (.index t x ix) e w σ a:=by
 unfold o_ix at h
 cases hi:aev n env ix with
 | none=>rw [hi] at h;cases h
 | some v2 =>
 rw [hi] at h
 have r2:=H ix (by simp) v2 hi
 generalize e2:e ix=V2 at r2
 cases v2<;>dsimp only at h<;>first|(cases h;done)|skip
 cases r2
 obtain ⟨j,hj,h2⟩:=bind_some h
 clear h
 have:=Qcn hj
 subst this
 have h:=h2
 clear h2
 cases hx:aev n env x with
 | none=>rw [hx] at h;cases h
 | some v =>
 rw [hx] at h
 have r1:=H x (by simp) v hx
 generalize e1:e x=V1 at r1
 cases v<;>dsimp only at h<;>first|(cases h;done)|skip
 ·rename_i l
  cases r1 with|s _ hl=>?_
  cases hd:und C t with
  | none=>rw [hd] at h;cases h
  | some d =>
  rw [hd] at h
  cases d<;>dsimp only at h<;>first|(cases h;done)|skip
  obtain ⟨c,hc,h⟩:=bind_some h
  obtain ⟨hb,h⟩:=Qam h
  cases h
  have hb:=QhP hb
  refine ⟨_,.i _ _,fun ty=>?_⟩
  have hq:(byts l)[j]?=some (UInt8.ofNat c):=by
   show (byts l).data[j]?=_
   unfold byts
   simp [hc]
  simp only [X,execOp,e1,e2,Instr.index,asIntOf,Sem.run_bind,Sem.run_pure,Result.andThen_ok,Qbm HC hd w,Int.toNat_natCast,Int.natCast_nonneg,if_true,hq]
  have:(UInt8.ofNat c).toNat=c:=by simp only [UInt8.toNat_ofNat'];omega
  rw [this];rfl
 cases r1 with|ag q=>?_
 cases hd:und C t with
 | none=>rw [hd] at h;cases h
 | some d =>
 rw [hd] at h
 cases d<;>dsimp only at h<;>first|(cases h;done)|skip
 obtain ⟨hb,h⟩:=Qam h
 obtain ⟨k,hk,h⟩:=bind_some h
 have hb:=QhP hb
 obtain ⟨V,hV,hV2⟩:=QoK HC q h
 refine ⟨V,hV,fun ty=>?_⟩
 simp only [X,execOp,e1,e2,Instr.index,asIntOf,Sem.run_bind,Sem.run_pure,Result.andThen_ok,Qbm HC hd w]
 rw [if_pos ⟨by omega,by omega⟩]
 simp only [Sem.run_bind,Qfx HC hk w,Result.andThen_ok,Int.toNat_natCast,hV2]
omit HC in
theorem Qwl {f:Fn} {first caps:Array Operand} {a:AV} (H:HE n env e σ (first.toList++caps.toList)) (h:o_mf n env f first caps=some a):Qba P (.makeFunc f first caps) e w σ a:=by
 unfold o_mf at h
 cases f<;>dsimp only at h<;>first|(cases h;done)|skip
 obtain ⟨h0,h⟩:=Qam h
 obtain ⟨l,hl,h⟩:=map_some h
 subst h
 have h0:first.toList=[]:=List.eq_nil_of_length_eq_zero (Nat.eq_of_beq_eq_true h0)
 have h0:first = #[]:=by cases first;simpa using h0
 subst h0
 have hr:=Qfn (H.sub fun y hy=>by simpa using hy) hl
 refine ⟨_,.fn hr,fun ty=>?_⟩
 obtain ⟨caps⟩:=caps
 simp [X,execOp,Instr.makeFunc]
theorem Qwk {t:Nat} {x:Operand} {a:AV} (H:HE n env e σ [x]) (h:o_mi C n env t x=some a):Qba P (.makeInterface t x) e w σ a:=by
 unfold o_mi at h
 cases hd:und C t with
 | none=>rw [hd] at h;cases h
 | some d =>
 rw [hd] at h
 have h2:(aev n env x).map (.fc t)=some a/\∀ q,d≠.interface q:=by
  cases d<;>dsimp only at h<;>first|(cases h;done)|exact ⟨h,by intro q hq;cases hq⟩
 obtain ⟨h,hne⟩:=h2
 obtain ⟨v,hv,h⟩:=map_some h
 subst h
 have r1:=H x (by simp) v hv
 refine ⟨_,.fc r1,fun ty=>?_⟩
 have key:(Instr.makeInterface t (e x)).run P w = .ok (.iface t (e x)) w:=by
  simp only [Instr.makeInterface,Sem.run_bind,Qbm HC hd w,Result.andThen_ok]
  cases d<;>first|rfl|(exact absurd rfl (hne _))
 simp only [X,execOp,key,Sem.run_bind,Sem.run_pure,Result.andThen_ok]
theorem Qwn {t u:Nat} {x:Operand} {ok:Bool} {a:AV} (H:HE n env e σ [x]) (h:o_ta C n env x t ok=some a):Qba P (.typeAssert x u t ok) e w σ a:=by
 unfold o_ta at h
 cases hx:aev n env x with
 | none=>rw [hx] at h;cases h
 | some v =>
 rw [hx] at h
 have r1:=H x (by simp) v hx
 generalize e1:e x=V1 at r1
 cases v<;>dsimp only at h<;>first|(cases h;done)|skip
 rename_i u' v
 cases r1 with|@fc _ _ V q=>?_
 cases hd:und C t with
 | none=>rw [hd] at h;cases h
 | some d =>
 rw [hd] at h
 have h2:cond (Nat.beq u' t&&!ok) (some v) none=some a/\∀ q,d≠.interface q:=by
  cases d<;>dsimp only at h<;>first|(cases h;done)|exact ⟨h,by intro q hq;cases hq⟩
 obtain ⟨h,hne⟩:=h2
 obtain ⟨hb,h⟩:=Qam h
 cases h
 rw [Bool.and_eq_true,Bool.not_eq_true'] at hb
 have:=Nat.eq_of_beq_eq_true hb.1
 subst this
 obtain ⟨_,rfl⟩:=hb
 refine ⟨_,q,fun ty=>?_⟩
 have key:(Instr.typeAssert (.iface u' V) u u' false).run P w = .ok V w:=by
  simp only [Instr.typeAssert,Sem.run_bind,Qbm HC hd w,Result.andThen_ok]
  cases d<;>first|(exact absurd rfl (hne _))|(simp [Sem.run_pure];done)
 simp only [X,execOp,e1,key,Sem.run_bind,Sem.run_pure,Result.andThen_ok]
theorem Qv2 {t:Nat} {x:Operand} {a:AV} (H:HE n env e σ [x]) (h:o_sap C n env t x=some a):Qba P (.sliceToArrayPointer t x) e w σ a:=by
 unfold o_sap at h
 cases hx:aev n env x with
 | none=>rw [hx] at h;cases h
 | some v =>
 rw [hx] at h
 have r1:=H x (by simp) v hx
 generalize e1:e x=V1 at r1
 cases v<;>dsimp only at h<;>first|(cases h;done)|skip
 cases r1 with|@sl _ _ _ _ b ee _ hσ=>?_
 cases hd:und C t with
 | none=>rw [hd] at h;cases h
 | some d =>
 rw [hd] at h
 cases d<;>dsimp only at h<;>first|(cases h;done)|skip
 obtain ⟨hb,h⟩:=Qam h
 cases h
 have hb:=QQ8 hb
 refine ⟨_,.p hσ,fun ty=>?_⟩
 simp only [X,execOp,e1,Instr.arrayAt,Sem.run_bind,Qbm HC hd w,Result.andThen_ok]
 rw [if_neg (by omega)]
 simp only [Sem.run_pure,Result.andThen_ok]
end
end Go.Ce
namespace Go.Ce
open Go.RowKit Go.Vx
variable [Tok]
section
variable {C:Cfg} {P:Program} (HC:CfgOk C P) {n:Nat} {env:Tr AV} {e:Operand->Value} {σ:Sig} {w:World} {m:Mem} {B:Nat} {w0:World} {M:Nat->Prop} [Inv w0 M] {fr:Nat->Res}
theorem Good.mp {h:Hp} (hg:Good B w0 M σ fr h w) {x:Nat} {es:List (AV × AV × Nat)} {clock:Nat} (hx:h x=some (.mp es clock)) :
  ∃ b e ves,σ x=some (b,e)/\w.heap[b]?=some (.map ves.toArray clock)/\RelM σ es ves:=by
 obtain ⟨b,e,o,h1,h2,ves,h3,h5⟩:=hg.block hx rfl
 subst h5
 exact ⟨b,e,ves,h1,h2,h3⟩
theorem Good.it {h:Hp} (hg:Good B w0 M σ fr h w) {x:Nat} {mm:Option Nat} {since last:Nat} {seen:List Nat} (hx:h x=some (.it mm since seen last)) :
  ∃ b e mb,σ x=some (b,e)/\w.heap[b]?=some (.mapIter mb since seen.toArray last)/\Qtp σ mm mb:=by
 obtain ⟨b,e,o,h1,h2,mb,h3,h5⟩:=hg.block hx rfl
 subst h5
 exact ⟨b,e,mb,h1,h2,h3⟩
inductive RelF (σ:Sig):Option (Nat × AV × Nat)->Option (Nat × Value)->List MapEntry->Prop where
 | no {l:List MapEntry}:RelF σ none none l
 | yes {i b:Nat} {v:AV} {k V:Value} {l:List MapEntry} (h:l[i]?=some ⟨k,V,b⟩) (hr:Rel σ v V):RelF σ (some (i,v,b)) (some (i,V)) l
theorem QsU {d:TypeDesc} {k k':AV} {kv kv':Value} {q:Bool} (hk:Qgk (some d) k=true) (r:Rel σ k kv) (r':Rel σ k' kv') (h:beqS k k'=some q):Instr.sameNow d kv kv'=some q/\(q=true->Instr.sameBits 10000 kv' kv=true):=by
 unfold beqS at h
 split at h
 ·cases r;cases r'
  simp only [Qgk] at hk
  cases d<;>first|(cases hk;done)|skip
  obtain ⟨hj,h⟩:=Qam h
  cases h
  have:=Qg1 (Nat.eq_of_beq_eq_true hj)
  subst this
  rw [QdA]
  constructor
  ·simp only [Instr.sameNow,if_true];rfl
  intro hq
  rw [decide_eq_true_eq] at hq
  subst hq
  simp [Instr.sameBits]
 ·cases r;cases r'
  simp only [Qgk] at hk
  cases hk
 ·cases r with|s _ hl=>?_
  cases r' with|s _ hl'=>?_
  simp only [Qgk] at hk
  cases d<;>first|(cases hk;done)|skip
  cases h
  rw [Qey]
  have hb:∀ l l':List Nat,(∀ x∈l,x<256)->(∀ x∈l',x<256)->(byts l == byts l')=decide (l=l'):=by
   intro l l' h1 h2
   have hq:=MapKept.bytes_beq (byts l) (byts l')
   by_cases hll:l=l'
   ·subst hll;simp only [decide_true];exact hq.2 rfl
   have:¬byts l=byts l':=fun e=>hll (Qk6 h1 h2 (by
     have:=congrArg (fun b:ByteArray=>b.data.toList) e
     simpa [byts] using this))
   simp only [hll,decide_false]
   cases hb:(byts l == byts l') with
   | false=>rfl
   | true=>exact absurd (hq.1 hb) this
  constructor
  ·simp only [Instr.sameNow,hb _ _ hl hl']
  intro hq
  rw [decide_eq_true_eq] at hq
  subst hq
  exact (hb _ _ hl hl).trans (by simp)
 cases h
theorem QnM {d:TypeDesc} {k:AV} {kv:Value} (hk:Qgk (some d) k=true) (r:Rel σ k kv):∀ {es:List (AV × AV × Nat)} {ves:List MapEntry} (i:Nat) {q:Option (Nat × AV × Nat)} (pre:List MapEntry),pre.length=i->RelM σ es ves->findA k es i=some q ->
  ∃ Q,Instr.findNow d kv ves i=some Q/\RelF σ q Q (pre++ves)/\∀ j v b,q=some (j,v,b)->∃ e,(pre++ves)[j]?=some e/\Instr.sameBits 10000 e.key kv=true
 | [],_,i,q,pre,_,.nil,h=>by cases h;exact ⟨none,rfl,.no,by simp⟩
 | (a,v,b) :: es,_,i,q,pre,hp,@RelM.cons _ _ _ _ _ kv' vv _ ves hk' hv t,h=>by
  have h:((beqS k a).bind fun q=>cond q (some (some (i,v,b))) (findA k es (i+1)))=some q:=h
  obtain ⟨q',hq,h⟩:=bind_some h
  obtain ⟨hs,hsb⟩:=QsU hk r hk' hq
  have hat:(pre++({ key:=kv',val:=vv,born:=b } :: ves:List MapEntry))[i]?=some { key:=kv',val:=vv,born:=b }:=by
   rw [List.getElem?_append_right (by omega)];simp [hp]
  cases q' with
  | true =>
   cases h
   refine ⟨some (i,vv),by simp only [Instr.findNow,hs],RelF.yes hat hv,fun j v' b' hj=>?_⟩
   cases hj
   exact ⟨_,hat,hsb rfl⟩
  | false =>
   obtain ⟨Q,h1,h2,h3⟩:=QnM hk r (es:=es) (i+1) (pre++[{ key:=kv',val:=vv,born:=b }]) (by simp [hp]) t h
   rw [List.append_assoc] at h2 h3
   exact ⟨Q,by simp only [Instr.findNow,hs,h1],h2,h3⟩
theorem Qpw {kt:Nat} {d:TypeDesc} {k:AV} {kv:Value} {bb:Bool} (hd:P.underlying kt=some d) (hk:Qgk (some d) k=true) (r:Rel σ k kv):∀ w,(Instr.checkKey bb 10000 kt kv).run P w = .ok () w:=by
 intro w
 show (Instr.checkKey bb (9999+1) kt kv).run P w=_
 generalize 9999=N
 have hu:Ud P kt d:=fun w=>by rw [run_underlying hd]
 cases k<;>simp only [Qgk] at hk<;>first|(cases hk;done)|skip
 all_goals
  cases r
  cases d<;>first|(cases hk;done)|skip
  simp only [Instr.checkKey,Sem.run_bind,hu w,Result.andThen_ok,Sem.run_pure]
theorem QlR {kt:Nat} {d:TypeDesc} {k:AV} {kv:Value} {es:List (AV × AV × Nat)} {ves:List MapEntry} {q:Option (Nat × AV × Nat)} (hd:P.underlying kt=some d) (hk:Qgk (some d) k=true) (r:Rel σ k kv) (hm:RelM σ es ves) (h:findA k es 0=some q) :
  ∃ Q,(∀ w,(Instr.findKey kt kv ves).run P w = .ok Q w)/\RelF σ q Q ves/\∀ j v b,q=some (j,v,b)->∃ e,ves[j]?=some e/\Instr.sameBits 10000 e.key kv=true:=by
 obtain ⟨Q,h1,h2,h3⟩:=QnM hk r 0 [] rfl hm h
 refine ⟨Q,fun w=>?_,h2,h3⟩
 have hu:Ud P kt d:=fun w=>by rw [run_underlying hd]
 simp only [Instr.findKey,Sem.run_bind,hu w,Result.andThen_ok,h1,Sem.run_pure]
theorem Qnk {a:AV} {v:Value} (h:isD a=true) (r:Rel σ a v):∃ d:Dot,a = .ag [.i .u8 d.rep,.i .u32 d.seq]/\v=dv d:=by
 unfold isD at h
 split at h
 ·rw [Bool.and_eq_true] at h
  obtain ⟨h1,h2⟩:=h
  cases Qg1 (k:=.u8) (Nat.eq_of_beq_eq_true h1)
  cases Qg1 (k:=.u32) (Nat.eq_of_beq_eq_true h2)
  rename_i x y
  cases r with|ag r=>?_
  cases r with|cons r1 r=>?_
  cases r with|cons r2 r=>?_
  cases r
  cases r1
  cases r2
  exact ⟨⟨x,y⟩,rfl,rfl⟩
 cases h
theorem Qk0 {d:Dot}:∀ {es:List (AV × AV × Nat)} {ves:List MapEntry} (i:Nat),RelM σ es ves->(es.all fun e=>isD e.1)=true ->
  ∃ ks:List Dot,ves.map (·.key)=ks.map dv/\match findD (.ag [.i .u8 d.rep,.i .u32 d.seq]) es i with|none=>lfind d (ks.zip (ves.map (·.val))) i=none|some (j,v,b)=>∃ V,lfind d (ks.zip (ves.map (·.val))) i=some (j,V)/\i<=j/\ves[j-i]?=some ⟨dv d,V,b⟩/\Rel σ v V
 | [],_,i,.nil,_=>⟨[],rfl,rfl⟩
 | (a,v,b) :: es,_,i,@RelM.cons _ _ _ _ _ kv' vv _ ves hk' hv t,h=>by
  rw [List.all_cons,Bool.and_eq_true] at h
  obtain ⟨c,e1,e2⟩:=Qnk h.1 hk'
  have e1:a = .ag [.i .u8 c.rep,.i .u32 c.seq]:=e1
  subst e1
  subst e2
  obtain ⟨ks,h1,h2⟩:=Qk0 (d:=d) (es:=es) (i+1) t h.2
  refine ⟨c :: ks,by simp [h1],?_⟩
  have ef:findD (.ag [.i .u8 d.rep,.i .u32 d.seq]) ((.ag [.i .u8 c.rep,.i .u32 c.seq],v,b) :: es) i=cond (eqI d.rep c.rep&&eqI d.seq c.seq) (some (i,v,b)) (findD (.ag [.i .u8 d.rep,.i .u32 d.seq]) es (i+1)):=rfl
  rw [ef,QdA,QdA]
  have el:lfind d ((c :: ks).zip (({ key:=dv c,val:=vv,born:=b } :: ves:List MapEntry).map (·.val))) i=if d=c then some (i,vv) else lfind d (ks.zip (ves.map (·.val))) (i+1):=rfl
  rw [el]
  by_cases hdc:d=c
  ·subst hdc
   simp only [decide_true,Bool.and_self,cond_true,if_true]
   exact ⟨vv,rfl,Nat.le_refl _,by simp,hv⟩
  have hb:(decide (d.rep=c.rep)&&decide (d.seq=c.seq))=false:=by
   rw [Bool.and_eq_false_iff,decide_eq_false_iff_not,decide_eq_false_iff_not]
   by_cases h1:d.rep=c.rep
   ·right;intro h2;exact hdc (by cases d;cases c;simp at h1 h2;rw [h1,h2])
   exact .inl h1
  rw [hb,if_neg hdc,cond_false]
  revert h2
  cases hf:findD (.ag [.i .u8 d.rep,.i .u32 d.seq]) es (i+1) with
  | none=>exact id
  | some r =>
   obtain ⟨j,v',b'⟩:=r
   rintro ⟨V,q1,q2,q3,q4⟩
   exact ⟨V,q1,by omega,by rw [show j-i=(j-(i+1))+1 by omega,List.getElem?_cons_succ];exact q3,q4⟩
include HC
theorem Qm9 {kt:Nat} {k:AV} {kv:Value} {es:List (AV × AV × Nat)} {ves:List MapEntry} {q:Option (Nat × AV × Nat)} (hk:keyK C kt k=true) (r:Rel σ k kv) (hm:RelM σ es ves) (h:findK k es=some q) :
  ∃ Q,(∀ w,(Instr.findKey kt kv ves).run P w = .ok Q w)/\RelF σ q Q ves/\(∀ j v b,q=some (j,v,b)->∃ e,ves[j]?=some e/\Instr.sameBits 10000 e.key kv=true)/\∀ bb w,(Instr.checkKey bb 10000 kt kv).run P w = .ok () w:=by
 by_cases ha:∃ cs,k = .ag cs
 ·obtain ⟨cs,rfl⟩:=ha
  have hk:(C.kys kt&&isD (.ag cs))=true:=hk
  rw [Bool.and_eq_true] at hk
  have KO:=HC.kys kt hk.1
  obtain ⟨d,e1,rfl⟩:=Qnk hk.2 r
  rw [e1] at h
  have h:cond (es.all fun e=>isD e.1) (some (findD (.ag [.i .u8 d.rep,.i .u32 d.seq]) es 0)) none=some q:=h
  obtain ⟨hall,h⟩:=Qam h
  cases h
  obtain ⟨ks,h1,h2⟩:=Qk0 (d:=d) 0 hm hall
  refine ⟨_,fun w=>KO.find d ks ves w h1,?_,?_,fun bb w=>KO.chk bb d w⟩
  ·revert h2
   cases findD (.ag [.i .u8 d.rep,.i .u32 d.seq]) es 0 with
   | none=>intro h2;rw [h2];exact .no
   | some r =>
    obtain ⟨j,v,b⟩:=r
    rintro ⟨V,q1,_,q3,q4⟩
    rw [q1]
    exact .yes (by simpa using q3) q4
  intro j v b hq
  rw [hq] at h2
  obtain ⟨V,_,_,q3,_⟩:=h2
  exact ⟨_,by simpa using q3,KO.bits d⟩
 have hk':Qgk (und C kt) k=true:=by cases k<;>first|exact hk|exact absurd ⟨_,rfl⟩ ha
 have h':findA k es 0=some q:=by cases k<;>first|exact h|exact absurd ⟨_,rfl⟩ ha
 cases hkd:und C kt with
 | none=>rw [hkd] at hk';cases k<;>simp only [Qgk] at hk'<;>cases hk'
 | some kd' =>
 rw [hkd] at hk'
 have hku:=Qdl HC hkd
 obtain ⟨Q,hQ,hF,hsb⟩:=QlR hku hk' r hm h'
 exact ⟨Q,hQ,hF,hsb,fun bb=>Qpw (P:=P) (bb:=bb) hku hk' r⟩
theorem Qq6 {t:Nat} {x y:Operand} {ok:Bool} {a:AV} (H:HE n env e σ [x,y]) (hg:Good B w0 M σ fr m.h.get w) (h:o_look C n env m t x y ok=some a):Qba P (.lookup t x y ok) e w σ a:=by
 unfold o_look at h
 cases hx:aev n env x with
 | none=>rw [hx] at h;cases h
 | some v =>
 rw [hx] at h
 have r1:=H x (by simp) v hx
 generalize e1:e x=V1 at r1
 cases v<;>dsimp only at h<;>first|(cases h;done)|skip
 rename_i nm
 cases r1 with|@m _ b ee hσ=>?_
 cases hd:und C t with
 | none=>rw [hd] at h;cases h
 | some d =>
 rw [hd] at h
 cases d<;>dsimp only at h<;>first|(cases h;done)|skip
 rename_i kt el
 cases hb:m.h.get nm with
 | none=>rw [hb] at h;cases h
 | some blk =>
 rw [hb] at h
 cases blk<;>dsimp only at h<;>first|(cases h;done)|skip
 rename_i es clock
 obtain ⟨b',e',ves,h1,h2,h3⟩:=hg.mp hb
 rw [hσ] at h1;cases h1
 obtain ⟨k,hk,h⟩:=bind_some h
 obtain ⟨hko,h⟩:=Qam h
 obtain ⟨q,hq,h⟩:=bind_some h
 obtain ⟨v,hv,h⟩:=map_some h
 have r2:=H y (by simp) k hk
 generalize e2:e y=V2 at r2
 obtain ⟨Q,hQ,hF,_,hck0⟩:=Qm9 HC hko r2 h3 hq
 have hck:=hck0 ves.toArray.isEmpty
 have hgo:(getObj b).run P w = .ok (.map ves.toArray clock) w:=by simp [getObj,Sem.run,h2]
 have key:∃ V,Rel σ v V/\(Instr.lookup t (.map (some b)) V2 ok).run P w = .ok (if ok then .tuple #[V,.bool q.isSome] else V) w:=by
  cases hF with
  | no =>
   obtain ⟨Z,hZ,hZr,_⟩:=Qet HC hv
   refine ⟨Z,hZr σ,?_⟩
   simp only [Instr.lookup,Sem.run_bind,Qbm HC hd w,Result.andThen_ok,hgo,Sem.run_pure,hck w,hQ w,hZ w]
   cases ok<;>rfl
  | yes hat hr =>
   cases hv
   refine ⟨_,hr,?_⟩
   simp only [Instr.lookup,Sem.run_bind,Qbm HC hd w,Result.andThen_ok,hgo,Sem.run_pure,hck w,hQ w]
   cases ok<;>rfl
 obtain ⟨V,hV,hrun⟩:=key
 subst h
 cases ok with
 | true=>exact ⟨_,.tu (.cons hV (.cons (.b _) .nil)),fun ty=>by simp only [X,execOp,e1,e2,hrun,Sem.run_bind,Sem.run_pure,Result.andThen_ok];rfl⟩
 | false=>exact ⟨_,hV,fun ty=>by simp only [X,execOp,e1,e2,hrun,Sem.run_bind,Sem.run_pure,Result.andThen_ok];rfl⟩
end
end Go.Ce
namespace Go.Ce
open Go.RowKit Go.Vx
variable [Tok]
section
variable {C:Cfg} {P:Program} (HC:CfgOk C P) {n:Nat} {env:Tr AV} {e:Operand->Value} {σ:Sig} {w:World} {m:Mem} {B:Nat} {w0:World} {M:Nat->Prop} [Inv w0 M] {fr:Nat->Res}
theorem QdQ {r:Nat} {o:Obj} (h:w.heap[r]?=some o) (hc:∀ a b c,o≠.cells a b c):(getObj r).run P w = .ok o w:=by
 cases o with
 | cells a b c=>exact absurd rfl (hc a b c)
 | _=>simp only [getObj,Sem.run,h]
theorem QoB {es:List (AV × AV × Nat)} {ves:List MapEntry} (hm:RelM σ es ves) {q:Nat} {a:AV × AV × Nat} (h:es.find? (fun e=>Nat.beq e.2.2 q)=some a) :
  ∃ E:MapEntry,ves.find? (fun e=>e.born == q)=some E/\Rel σ a.1 E.key/\Rel σ a.2.1 E.val:=by
 induction hm with
 | nil=>cases h
 | @cons k v b kv vv l es hk hv t ih =>
  rw [List.find?_cons] at h ⊢
  dsimp only at h ⊢
  have e1:(b == q)=Nat.beq b q:=by rw [QbT];rfl
  rw [e1]
  cases hb:Nat.beq b q with
  | true=>rw [hb] at h;cases h;exact ⟨_,rfl,hk,hv⟩
  | false=>rw [hb] at h;exact ih h
theorem Qro {x:Operand} {a:AV} (H:HE n env e σ [x]) (hg:Good B w0 M σ fr m.h.get w) (h:o_entry n env m x=some a):Qba P (.entry x) e w σ a:=by
 unfold o_entry at h
 cases hx:aev n env x with
 | none=>rw [hx] at h;cases h
 | some v =>
 rw [hx] at h
 have r1:=H x (by simp) v hx
 generalize e1:e x=V1 at r1
 cases v<;>first|(cases h;done)|skip
 rename_i it off
 cases off with
 | succ _=>cases h
 | zero =>
 simp only at h
 cases r1 with|@p _ _ b ee hσ=>?_
 cases hb:m.h.get it with
 | none=>rw [hb] at h;cases h
 | some blk =>
 rw [hb] at h
 cases blk<;>first|(cases h;done)|skip
 rename_i mm since seen last
 cases mm<;>first|(cases h;done)|skip
 simp only at h
 rename_i nm
 obtain ⟨b',e',mb,h1,h2,b2,e2,h3,rfl⟩:=hg.it hb
 rw [hσ] at h1;cases h1
 cases hb2:m.h.get nm with
 | none=>rw [hb2] at h;cases h
 | some blk2 =>
 rw [hb2] at h
 cases blk2<;>first|(cases h;done)|skip
 simp only at h
 rename_i es clock
 obtain ⟨b3,e3,ves,h4,h5,h6⟩:=hg.mp hb2
 rw [h3] at h4;cases h4
 obtain ⟨hc0,h7⟩:=Qam h
 clear h
 have hc:=Nat.eq_of_beq_eq_true hc0
 clear hc0
 subst hc
 have h:=h7
 clear h7
 obtain ⟨q,hq,h⟩:=bind_some h
 obtain ⟨E,hE,h⟩:=map_some h
 subst h
 obtain ⟨EE,hE2,hk,hv⟩:=QoB h6 hE
 refine ⟨_,.tu (.cons hk (.cons hv .nil)),fun ty=>?_⟩
 have hgo1:(getObj b).run P w = .ok (.mapIter (some b2) since seen.toArray clock) w:=QdQ h2 (by simp)
 have hgo2:(getObj b2).run P w = .ok (.map ves.toArray clock) w:=QdQ h5 (by simp)
 have hbk:seen.toArray.back?=some q:=by simp [hq]
 have hff:ves.toArray.find? (fun e=>e.born == q)=some EE:=by simpa using hE2
 have key:(Instr.entry (.pointer (some ⟨b,0,none⟩))).run P w = .ok (.tuple #[EE.key,EE.val]) w:=by
  simp only [Instr.entry,Sem.run_bind,hgo1,Result.andThen_ok,hbk,hgo2,bne_self_eq_false,Bool.false_eq_true,if_false,hff,Sem.run_pure]
 simp only [X,execOp,e1,key,Sem.run_bind,Sem.run_pure,Result.andThen_ok]
theorem QcK {b:Builtin} {args:Array Operand} {ts:Array TypeId} {vs:List Value} (hv:args.toList.map e=vs) (ty:TypeId):X P (.call { callee:=.builtin b,args,argTypes:=ts }) ty e w=(builtin b ts ty (args.map fun|.const _=>true|_=>false) vs.toArray).run P w:=by
 subst hv
 show (execOp e _).run P w=_
 rw [BigFrame.execOp_builtin]
 obtain ⟨args⟩:=args
 simp only [List.map_toArray]
 rfl
theorem QdP {ts:Array TypeId} {d:TypeDesc} (h:ts.toList.head?.bind (und C)=some d):∃ t,ts[0]?=some t/\und C t=some d:=by
 obtain ⟨t,h1,h2⟩:=bind_some h
 refine ⟨t,?_,h2⟩
 obtain ⟨l⟩:=ts
 cases l with
 | nil=>cases h1
 | cons a l=>cases h1;rfl
include HC
theorem Qt2 {args:Array Operand} {ts:Array TypeId} {x a:AV} {V:Value} {d:TypeDesc} (hv:args.toList.map e=[V]) (hr:Rel σ x V) (hd:ts.toList.head?.bind (und C)=some d) (hg:Good B w0 M σ fr m.h.get w) (h:o_len C m x d=some a):Qba P (.call { callee:=.builtin .len,args,argTypes:=ts }) e w σ a:=by
 obtain ⟨t,ht,hd⟩:=QdP hd
 have fin:∀ W,Rel σ a W->(∀ ty,(Builtin.len_ ts ty #[V]).run P w = .ok W w)->Qba P (.call { callee:=.builtin .len,args,argTypes:=ts }) e w σ a:=fun W h1 h2=>⟨W,h1,fun ty=>by
  rw [QcK hv ty,BigFrame.builtin_len]
  simp only [Sem.run_bind,h2 ty,Result.andThen_ok,Sem.run_pure]⟩
 have hu:=Qbm HC hd w
 unfold o_len at h
 cases x<;>dsimp only at h<;>first|(cases h;done)|skip
 all_goals cases d<;>dsimp only at h<;>first|(cases h;done)|skip
 ·cases hr
  obtain ⟨q,l,c,h1,h2⟩:=HC.tlen _ _ h
  refine fin _ (h2 σ) fun ty=>?_
  rw [h1]
  simp only [Builtin.len_,ht,List.getElem?_toArray,List.getElem?_cons_zero,Sem.run_bind,hu,Result.andThen_ok,Sem.run_pure,goInt]<;>rfl
 ·cases h;cases hr with|s _ hl=>?_
  rename_i l _
  refine fin _ (.i _ _) fun ty=>?_
  simp only [Builtin.len_,ht,List.getElem?_toArray,List.getElem?_cons_zero,Sem.run_bind,hu,Result.andThen_ok,Sem.run_pure,goInt]
  have:(byts l).size=l.length:=by simp [byts,ByteArray.size]
  rw [this];rfl
 ·cases h;cases hr
  refine fin _ (.i _ _) fun ty=>?_
  simp only [Builtin.len_,ht,List.getElem?_toArray,List.getElem?_cons_zero,Sem.run_bind,hu,Result.andThen_ok,Sem.run_pure,goInt]<;>rfl
 ·cases h;cases hr
  refine fin _ (.i _ _) fun ty=>?_
  simp only [Builtin.len_,ht,List.getElem?_toArray,List.getElem?_cons_zero,Sem.run_bind,hu,Result.andThen_ok,Sem.run_pure,goInt]<;>rfl
 ·cases h;cases hr
  refine fin _ (.i _ _) fun ty=>?_
  simp only [Builtin.len_,ht,List.getElem?_toArray,List.getElem?_cons_zero,Sem.run_bind,hu,Result.andThen_ok,Sem.run_pure,goInt]<;>rfl
 ·cases h;cases hr
  refine fin _ (.i _ _) fun ty=>?_
  simp only [Builtin.len_,ht,List.getElem?_toArray,List.getElem?_cons_zero,Sem.run_bind,hu,Result.andThen_ok,Sem.run_pure,goInt]<;>rfl
 ·cases hr with|@m _ b ee hσ=>?_
  rename_i nm _ _ _
  cases hb:m.h.get nm with
  | none=>rw [hb] at h;cases h
  | some blk =>
  rw [hb] at h
  cases blk<;>dsimp only at h<;>first|(cases h;done)|skip
  cases h
  obtain ⟨b',e',ves,h1,h2,h3⟩:=hg.mp hb
  rw [hσ] at h1;cases h1
  have hl:∀ {es:List (AV × AV × Nat)} {ves:List MapEntry},RelM σ es ves->ves.length=es.length:=by
   intro es ves hm;induction hm with
   | nil=>rfl
   | cons _ _ _ ih=>simp [ih]
  refine fin _ (.i _ _) fun ty=>?_
  have hgo:(getObj b).run P w = .ok (.map ves.toArray _) w:=QdQ h2 (by simp)
  simp only [Builtin.len_,ht,List.getElem?_toArray,List.getElem?_cons_zero,Sem.run_bind,hu,Result.andThen_ok,Sem.run_pure,goInt,hgo,List.size_toArray,hl h3]<;>rfl
 cases h;cases hr
 refine fin _ (.i _ _) fun ty=>?_
 simp only [Builtin.len_,ht,List.getElem?_toArray,List.getElem?_cons_zero,Sem.run_bind,hu,Result.andThen_ok,Sem.run_pure,goInt]<;>rfl
theorem Qvr {args:Array Operand} {ts:Array TypeId} {x a:AV} {V:Value} {d:TypeDesc} (hv:args.toList.map e=[V]) (hr:Rel σ x V) (hd:ts.toList.head?.bind (und C)=some d) (h:o_cap x d=some a):Qba P (.call { callee:=.builtin .cap,args,argTypes:=ts }) e w σ a:=by
 obtain ⟨t,ht,hd⟩:=QdP hd
 have fin:∀ W,Rel σ a W->(∀ ty,(Builtin.cap_ ts ty #[V]).run P w = .ok W w)->Qba P (.call { callee:=.builtin .cap,args,argTypes:=ts }) e w σ a:=fun W h1 h2=>⟨W,h1,fun ty=>by
  rw [QcK hv ty,BigFrame.builtin_cap]
  simp only [Sem.run_bind,h2 ty,Result.andThen_ok,Sem.run_pure]⟩
 have hu:=Qbm HC hd w
 unfold o_cap at h
 cases d<;>dsimp only at h<;>first|(cases h;done)|skip
 cases x<;>dsimp only at h<;>first|(cases h;done)|skip
 ·cases h;cases hr
  refine fin _ (.i _ _) fun ty=>?_
  simp only [Builtin.cap_,ht,List.getElem?_toArray,List.getElem?_cons_zero,Sem.run_bind,hu,Result.andThen_ok,Sem.run_pure,goInt]<;>rfl
 obtain ⟨hex,h⟩:=Qco h
 cases h;subst hex;cases hr
 refine fin _ (.i _ _) fun ty=>?_
 simp only [Builtin.cap_,ht,List.getElem?_toArray,List.getElem?_cons_zero,Sem.run_bind,hu,Result.andThen_ok,Sem.run_pure,goInt,cond_false,Nat.add_zero]<;>rfl
theorem Qws {args:Array Operand} {ts:Array TypeId} {x y a:AV} {V U:Value} (hv:args.toList.map e=[V,U]) (hr:Rel σ x V) (hq:Rel σ y U) (h:o_mn C x y=some a):Qba P (.call { callee:=.builtin .min,args,argTypes:=ts }) e w σ a:=by
 unfold o_mn at h
 cases x<;>cases y<;>dsimp only at h<;>first|(cases h;done)|skip
 ·rename_i k j b
  obtain ⟨r,h1,h2⟩:=bind_some h
  cases r<;>dsimp only at h2<;>first|(cases h2;done)|skip
  rename_i q
  obtain ⟨p,hp,hb⟩:=HC.bop .lss k j b _ h1
  have hq1:=hb 0
  have hq2:cond (Nat.beq (kd j) (kd j)) (some (AV.b (ltI p b))) none=some (AV.b q):=hq1
  rw [Nat.beq_refl,cond_true] at hq2
  have hq3:ltI p b=q:=by simpa using hq2
  rw [QfL] at hq3
  have hr':=hr
  cases hr
  cases hq
  have hres:Rel σ a (.int j (if b<p then b else p)):=by
   cases h2
   cases q with
   | true =>
    have:p<b:=by simpa using hq3
    rw [if_neg (by omega),← hp];exact hr'
   | false =>
    have:¬p<b:=by simpa using hq3
    have e9:(if b<p then b else p)=b:=by split<;>omega
    rw [e9];exact .i _ _
  rw [hp] at hv
  refine ⟨_,hres,fun ty=>?_⟩
  rw [QcK hv ty,BigFrame.builtin_min]
  simp only [Sem.run_bind,run_min_int2,Result.andThen_ok,Sem.run_pure]
  try rfl
 cases h;cases hr;cases hq
 refine ⟨_,.i _ _,fun ty=>?_⟩
 rw [QcK hv ty,BigFrame.builtin_min,QfL]
 simp only [Sem.run_bind,run_min_int2,Result.andThen_ok,Sem.run_pure]
 congr 3
 split<;>simp_all<;>(rw [QQ4 (by omega)];rfl)
theorem Qww {args:Array Operand} {ts:Array TypeId} {x y a:AV} {V U:Value} (hv:args.toList.map e=[V,U]) (hr:Rel σ x V) (hq:Rel σ y U) (h:o_mx C x y=some a):Qba P (.call { callee:=.builtin .max,args,argTypes:=ts }) e w σ a:=by
 unfold o_mx at h
 cases x<;>cases y<;>dsimp only at h<;>first|(cases h;done)|skip
 ·rename_i k j b
  obtain ⟨r,h1,h2⟩:=bind_some h
  cases r<;>dsimp only at h2<;>first|(cases h2;done)|skip
  rename_i q
  obtain ⟨p,hp,hb⟩:=HC.bop .lss k j b _ h1
  have hq1:=hb 0
  have hq2:cond (Nat.beq (kd j) (kd j)) (some (AV.b (ltI p b))) none=some (AV.b q):=hq1
  rw [Nat.beq_refl,cond_true] at hq2
  have hq3:ltI p b=q:=by simpa using hq2
  rw [QfL] at hq3
  have hr':=hr
  cases hr
  cases hq
  have hres:Rel σ a (.int j (if p<b then b else p)):=by
   cases h2
   cases q with
   | true =>
    have:p<b:=by simpa using hq3
    rw [if_pos this];exact .i _ _
   | false =>
    have:¬p<b:=by simpa using hq3
    rw [if_neg this,← hp];exact hr'
  rw [hp] at hv
  refine ⟨_,hres,fun ty=>?_⟩
  rw [QcK hv ty,BigFrame.builtin_max]
  simp only [Sem.run_bind,run_max_int2,Result.andThen_ok,Sem.run_pure]
  try rfl
 cases h;cases hr;cases hq
 refine ⟨_,.i _ _,fun ty=>?_⟩
 rw [QcK hv ty,BigFrame.builtin_max,QfL]
 simp only [Sem.run_bind,run_max_int2,Result.andThen_ok,Sem.run_pure]
 congr 3
 split<;>simp_all<;>(rw [QQ4 (by omega)];rfl)
end
end Go.Ce
namespace Go.Ce
open Go.RowKit Go.Vx
variable [Tok]
section
variable {C:Cfg} {P:Program} (HC:CfgOk C P) {n:Nat} {env:Tr AV} {e:Operand->Value} {σ:Sig} {w:World} {m:Mem} {B:Nat} {w0:World} {M:Nat->Prop} [Inv w0 M] {fr:Nat->Res}
def QrC (e:Operand->Value) (x:Option Operand) (d k:Nat):Prop:=(x=none/\k=d)∨∃ y j,x=some y/\e y = .int j (k:Int)
theorem Qch {x:Option Operand} {d k:Nat} (H:HE n env e σ x.toList) (h:optI n env x d=some k):QrC e x d k:=by
 unfold optI at h
 cases x with
 | none=>cases h;exact .inl ⟨rfl,rfl⟩
 | some y =>
  dsimp only at h
  cases hy:aev n env y with
  | none=>rw [hy] at h;cases h
  | some v =>
   rw [hy] at h
   have r:=H y (by simp) v hy
   cases v<;>dsimp only at h<;>first|(cases h;done)|skip
   have:=Qcn h
   subst this
   generalize he:e y=V at r
   cases r
   exact .inr ⟨y,_,rfl,he⟩
theorem Qe0 {k:IntKind} {i y:Nat} {c:BoundsCode} (h:i<=y):(Instr.sliceBound (.int k (i:Int)) y c).run P w = .ok i w:=by
 simp only [Instr.sliceBound,asIntOf,Sem.run_bind,Sem.run_pure,Result.andThen_ok]
 rw [if_pos ⟨by omega,by omega⟩]
 simp only [Int.toNat_natCast,Sem.run_pure]
theorem Qme {s:Bool} {lo hi mx:Option Operand} {len cap l h q:Nat} (hlo:QrC e lo 0 l) (hhi:QrC e hi len h) (hmx:QrC e mx cap q) (hm:mx.isSome=true->hi.isSome=true) (h1:l<=h) (h2:h<=q) (h3:q<=cap) :
  (Instr.sliceBounds s len cap (lo.map e) (hi.map e) (mx.map e)).run P w = .ok (l,h,q) w:=by
 rcases hlo with ⟨rfl,rfl⟩|⟨yl,jl,rfl,el⟩<;>rcases hhi with ⟨rfl,rfl⟩|⟨yh,jh,rfl,eh⟩<;>rcases hmx with ⟨rfl,rfl⟩|⟨ym,jm,rfl,em⟩
 ·simp only [Instr.sliceBounds,Option.map_none,Sem.run_bind,Sem.run_pure,Result.andThen_ok]
 ·exact absurd (hm rfl) (by simp)
 ·simp only [Instr.sliceBounds,Option.map_none,Option.map_some,eh,Qe0 h2,Sem.run_bind,Sem.run_pure,Result.andThen_ok]
 ·simp only [Instr.sliceBounds,Option.map_none,Option.map_some,eh,em,Qe0 h2,Qe0 h3,Sem.run_bind,Sem.run_pure,Result.andThen_ok]
 ·simp only [Instr.sliceBounds,Option.map_none,Option.map_some,el,Qe0 h1,Sem.run_bind,Sem.run_pure,Result.andThen_ok]
 ·exact absurd (hm rfl) (by simp)
 ·simp only [Instr.sliceBounds,Option.map_none,Option.map_some,el,eh,Qe0 h2,Qe0 h1,Sem.run_bind,Sem.run_pure,Result.andThen_ok]
 simp only [Instr.sliceBounds,Option.map_some,el,eh,em,Qe0 h2,Qe0 h1,Qe0 h3,Sem.run_bind,Sem.run_pure,Result.andThen_ok]
theorem QdD {a b:Nat} (h:Nat.beq a b=true):a=b:=Nat.eq_of_beq_eq_true h
theorem QuW {a b:Nat} (h:Nat.beq a b=false):¬a=b:=fun e=>by subst e;simp at h
include HC
theorem QrP {t:Nat} {x:Operand} {lo hi mx:Option Operand} {a:AV} (H:HE n env e σ (x :: (lo.toList++hi.toList++mx.toList))) (h:((aev n env x).bind fun v=>sliceA C n env t v lo hi mx)=some a):Qba P (.slice t x lo hi mx) e w σ a:=by
 obtain ⟨v,hx,h⟩:=bind_some h
 have r1:=H x (by simp) v hx
 have Hlo:HE n env e σ lo.toList:=H.sub fun y hy=>by simp at hy ⊢;simp [hy]
 have Hhi:HE n env e σ hi.toList:=H.sub fun y hy=>by simp at hy ⊢;simp [hy]
 have Hmx:HE n env e σ mx.toList:=H.sub fun y hy=>by simp at hy ⊢;simp [hy]
 generalize e1:e x=V1 at r1
 unfold sliceA at h
 cases hd:und C t with
 | none=>rw [hd] at h;cases v<;>cases h
 | some d =>
 rw [hd] at h
 have hu:=Qbm HC hd w
 have fin:∀ V,Rel σ a V->(Instr.sliceAt t V1 (lo.map e) (hi.map e) (mx.map e)).run P w = .ok V w->Qba P (.slice t x lo hi mx) e w σ a:=fun V h1 h2=>⟨V,h1,fun ty=>by
  simp only [X,execOp,e1,h2,Sem.run_bind,Sem.run_pure,Result.andThen_ok]⟩
 have nn:∀ {o:Option Operand} {q d:Nat},QrC e o d q->o=none->q=d:=fun {o q d} ho hn=>by
  rcases ho with ⟨_,h⟩|⟨y,j,h,_⟩
  ·exact h
  rw [hn] at h;cases h
 cases d<;>first|(cases v<;>cases h;done)|skip
 ·
  cases v<;>first|(cases h;done)|skip
  rename_i l
  cases r1 with|s _ hl=>?_
  cases mx with
  | some _=>cases h
  | none =>
  simp only at h
  obtain ⟨h',q1,h⟩:=bind_some h
  obtain ⟨b1,h⟩:=Qam h
  obtain ⟨l',q2,h⟩:=bind_some h
  obtain ⟨b2,h⟩:=Qam h
  cases h
  have b1:=QQ8 b1
  have b2:=QQ8 b2
  have sz:(byts l).size=l.length:=by simp [byts,ByteArray.size]
  refine fin _ (.s _ fun x hx=>hl x (List.mem_of_mem_drop (List.mem_of_mem_take hx))) ?_
  have hb:=Qme (P:=P) (w:=w) (s:=false) (mx:=none) (len:=l.length) (cap:=l.length) (Qch Hlo q2) (Qch Hhi q1) (.inl ⟨rfl,rfl⟩) (by simp) b2 b1 (Nat.le_refl _)
  have ex:(byts l).extract l' h'=byts ((l.drop l').take (h'-l')):=by
   apply ByteArray.ext
   simp [byts,List.extract_eq_take_drop,List.map_take,List.map_drop]
  simp only [Instr.sliceAt,Instr.slice,Sem.run_bind,hu,Result.andThen_ok,Option.map_none,Option.isSome_none,Bool.false_eq_true,if_false,sz]
  simp only [Option.map_none] at hb
  simp only [Sem.run_bind,Sem.run_pure,Result.andThen_ok,hb,ex]
 ·
  rename_i el
  have h:((szA C el).bind fun k=>cond (mx.isNone||hi.isSome) (match v with
    | .sl nm off len cap ex=>(optI n env mx cap).bind fun q=>cond (Nat.ble q cap) ((optI n env hi len).bind fun h=>cond (Nat.ble h q) ((optI n env lo 0).bind fun a=>cond (Nat.ble a h)
      (cond (Nat.beq q a) (cond (ex&&mx.isNone) (some .se) (some (.sl nm off 0 0 false))) (some (.sl nm (off+a*k) (h-a) (q-a) (ex&&mx.isNone)))) none) none) none
    | .se=>(optI n env mx 0).bind fun q=>cond (Nat.beq q 0) ((optI n env hi 0).bind fun h=>cond (Nat.beq h 0) ((optI n env lo 0).bind fun a=>cond (Nat.beq a 0) (some .se) none) none) none
    | .sn=>(optI n env mx 0).bind fun q=>cond (Nat.beq q 0) ((optI n env hi 0).bind fun h=>cond (Nat.beq h 0) ((optI n env lo 0).bind fun a=>cond (Nat.beq a 0) (some .sn) none) none) none
    | .tok q=>cond (Nat.beq k 1&&hi.isNone&&mx.isNone) ((optI n env lo 0).bind fun a=>(C.tk.sl q a).map AV.tok) none
    | _=>none) none)=some a:=by cases v<;>exact h
  obtain ⟨k,hk,h⟩:=bind_some h
  obtain ⟨hh,h8⟩:=Qam h
  clear h
  have h:=h8
  clear h8
  have hm:mx.isSome=true->hi.isSome=true:=fun hx=>by
   cases mx with
   | none=>cases hx
   | some _=>simpa using hh
  clear hh
  have size:=Qfx HC hk w
  cases v<;>first|(cases h;done)|skip
  ·
   rename_i q
   obtain ⟨hc,h⟩:=Qam h
   simp only [Bool.and_eq_true] at hc
   obtain ⟨⟨c1,c2⟩,c3⟩:=hc
   obtain ⟨l',q2,h⟩:=bind_some h
   obtain ⟨q',hq,h⟩:=map_some h
   subst h
   have c1:=Nat.eq_of_beq_eq_true c1
   subst c1
   have c2:hi=none:=by cases hi with|none=>rfl|some _=>cases c2
   have c3:mx=none:=by cases mx with|none=>rfl|some _=>cases c3
   subst c2
   subst c3
   obtain ⟨p,l,c,hk',hl,hlc,hv,h1⟩:=HC.tk.sl _ _ _ hq
   cases r1
   have hb:=Qme (P:=P) (w:=w) (s:=true) (hi:=none) (mx:=none) (len:=l) (cap:=c) (Qch Hlo q2) (.inl ⟨rfl,rfl⟩) (.inl ⟨rfl,rfl⟩) (by simp) hl hlc (Nat.le_refl _)
   refine fin (Tok.v q') (.tok q' h1) ?_
   rw [hk',hv]
   simp only [Instr.sliceAt,Instr.slice,Sem.run_bind,hu,Result.andThen_ok,hb,size,Sem.run_pure]
   rfl
  ·
   cases r1
   obtain ⟨q',q0,h⟩:=bind_some h
   obtain ⟨b0,h⟩:=Qam h
   obtain ⟨h',q1,h⟩:=bind_some h
   obtain ⟨b1,h⟩:=Qam h
   obtain ⟨l',q2,h⟩:=bind_some h
   obtain ⟨b2,h⟩:=Qam h
   cases h
   have b0:=QdD b0;subst b0
   have b1:=QdD b1;subst b1
   have b2:=QdD b2;subst b2
   have hb:=Qme (P:=P) (w:=w) (s:=true) (len:=0) (cap:=0) (Qch Hlo q2) (Qch Hhi q1) (Qch Hmx q0) hm (Nat.le_refl _) (Nat.le_refl _) (Nat.le_refl _)
   refine fin _ .sn ?_
   simp only [Instr.sliceAt,Instr.slice,Sem.run_bind,hu,Result.andThen_ok,hb,size,Sem.run_pure]
   rfl
  ·
   cases r1 with|se a0 c0=>?_
   obtain ⟨q',q0,h⟩:=bind_some h
   obtain ⟨b0,h⟩:=Qam h
   obtain ⟨h',q1,h⟩:=bind_some h
   obtain ⟨b1,h⟩:=Qam h
   obtain ⟨l',q2,h⟩:=bind_some h
   obtain ⟨b2,h⟩:=Qam h
   cases h
   have b0:=QdD b0;subst b0
   have b1:=QdD b1;subst b1
   have b2:=QdD b2;subst b2
   have o0:=Qch Hmx q0
   have key:∃ q,QrC e mx c0 q/\q<=c0:=by
    rcases o0 with ⟨rfl,_⟩|⟨y,j,rfl,he⟩
    ·exact ⟨c0,.inl ⟨rfl,rfl⟩,Nat.le_refl _⟩
    exact ⟨0,.inr ⟨y,j,rfl,he⟩,Nat.zero_le _⟩
   obtain ⟨q,oq,hq⟩:=key
   have hb:=Qme (P:=P) (w:=w) (s:=true) (len:=0) (cap:=c0) (Qch Hlo q2) (Qch Hhi q1) oq hm (Nat.le_refl _) (Nat.zero_le _) hq
   refine fin (.slice (some a0) 0 q) (.se _ _) ?_
   simp only [Instr.sliceAt,Instr.slice,Sem.run_bind,hu,Result.andThen_ok,hb,size,Sem.run_pure,Nat.zero_mul,Nat.sub_zero]
   by_cases h0:q=0
   ·simp [h0]
   simp [h0,Addr.add]
  rename_i nm off len cap ex _ _
  cases r1 with|@sl _ _ _ _ b ee _ hσ=>?_
  obtain ⟨q',q0,h⟩:=bind_some h
  obtain ⟨b0,h⟩:=Qam h
  obtain ⟨h',q1,h⟩:=bind_some h
  obtain ⟨b1,h⟩:=Qam h
  obtain ⟨l',q2,h⟩:=bind_some h
  obtain ⟨b2,h⟩:=Qam h
  have b0:=QQ8 b0
  have b1:=QQ8 b1
  have b2:=QQ8 b2
  have o0:=Qch Hmx q0
  have key:QrC e mx (cap+cond ex ee 0) (q'+cond (ex&&mx.isNone) ee 0):=by
   rcases o0 with ⟨rfl,rfl⟩|⟨y,j,rfl,he⟩
   ·exact .inl ⟨rfl,by simp⟩
   exact .inr ⟨y,j,rfl,by simpa using he⟩
  have hle:q'+cond (ex&&mx.isNone) ee 0<=cap+cond ex ee 0:=by
   cases ex<;>cases mx.isNone<;>simp<;>omega
  have hb:=Qme (P:=P) (w:=w) (s:=true) (len:=len) (cap:=cap+cond ex ee 0) (Qch Hlo q2) (Qch Hhi q1) key hm b2 (by omega) hle
  have run:(Instr.sliceAt t (.slice (some ⟨b,off,none⟩) len (cap+cond ex ee 0)) (lo.map e) (hi.map e) (mx.map e)).run P w = .ok (.slice (if q'+cond (ex&&mx.isNone) ee 0=l' then some ⟨b,off,none⟩ else some ⟨b,off+l'*k,none⟩) (h'-l') (q'+cond (ex&&mx.isNone) ee 0-l')) w:=by
   simp only [Instr.sliceAt,Instr.slice,Sem.run_bind,hu,Result.andThen_ok,hb,size,Sem.run_pure,Option.map_some,QaR]
  cases hq:Nat.beq q' l' with
  | true =>
   rw [hq] at h
   simp only [cond_true] at h
   have hq:=QdD hq
   cases hex:(ex&&mx.isNone) with
   | true =>
    rw [hex] at h run
    cases h
    refine fin _ ?_ run
    rw [show h'-l'=0 by omega]
    split
    ·exact .se _ _
    exact .se _ _
   | false =>
    rw [hex] at h run
    cases h
    refine fin _ ?_ run
    simp only [cond_false,Nat.add_zero]
    rw [if_pos hq,show h'-l'=0 by omega,show q'-l'=0 by omega]
    exact .sl (cap:=0) (ex:=false) hσ
  | false =>
   rw [hq] at h
   cases h
   have hq:=QuW hq
   refine fin _ ?_ run
   rw [if_neg (by omega),show q'+cond (ex&&mx.isNone) ee 0-l'=q'-l'+cond (ex&&mx.isNone) ee 0 by omega]
   exact .sl hσ
 rename_i len el
 cases v<;>first|(cases h;done)|skip
 rename_i nm off
 cases r1 with|@p _ _ b ee hσ=>?_
 cases mx with
 | some _=>cases h
 | none =>
 simp only at h
 obtain ⟨h',q1,h⟩:=bind_some h
 obtain ⟨b1,h⟩:=Qam h
 obtain ⟨l',q2,h⟩:=bind_some h
 obtain ⟨b2,h⟩:=Qam h
 obtain ⟨k,hk,h⟩:=map_some h
 subst h
 have b1:=QQ8 b1
 have b2:=QQ8 b2
 have hb:=Qme (P:=P) (w:=w) (s:=false) (mx:=none) (len:=len) (cap:=len) (Qch Hlo q2) (Qch Hhi q1) (.inl ⟨rfl,rfl⟩) (by simp) b2 b1 (Nat.le_refl _)
 simp only [Option.map_none] at hb
 refine fin _ (.sl hσ) ?_
 simp only [Instr.sliceAt,Sem.run_bind,hu,Result.andThen_ok,Instr.sureAddr,Sem.run_pure,Option.map_none,hb,Qfx HC hk w]
 cases hq:Nat.beq len l' with
 | true=>rw [if_pos (QdD hq)];rfl
 | false=>rw [if_neg (QuW hq),QaR];rfl
end
end Go.Ce
namespace Go.Ce
open Go.RowKit Go.Vx
variable [Tok]
section
variable {C:Cfg} {P:Program} (HC:CfgOk C P) {n:Nat} {env:Tr AV} {e:Operand->Value} {σ:Sig} {w:World} {m:Mem} {B:Nat} {w0:World} {M:Nat->Prop} [Inv w0 M] {fr:Nat->Res}
theorem Qf6 {pl place:Nat->Option (Nat × Nat)} (hp:∀ i p,pl i=some p->place i=some p):∀ {vs:List (Nat × AV)} {VS:List (Nat × Value)} {cs cs':List AV} {CS:List Value},RelP σ vs VS->RelL σ cs CS->fillA pl cs vs=some cs' ->
  ∃ CS',RelL σ cs' CS'/\Instr.fill place CS.toArray VS=some CS'.toArray/\CS'.length=CS.length
 | [],_,cs,cs',CS,.nil,hc,h=>by cases h;exact ⟨CS,hc,rfl,rfl⟩
 | (i,a) :: vs,_,cs,cs',CS,@RelP.cons _ _ _ _ v _ VS hr t,hc,h=>by
  have h:((pl i).bind fun p=>cond (Nat.beq a.cells.length p.2&&Nat.ble (p.1+p.2) cs.length) (fillA pl (cs.take p.1++a.cells++cs.drop (p.1+p.2)) vs) none)=some cs':=h
  obtain ⟨⟨off,size⟩,hpl,h⟩:=bind_some h
  obtain ⟨hb,h⟩:=Qam h
  rw [Bool.and_eq_true] at hb
  have h1:=QdD hb.1
  have h2:=QQ8 hb.2
  have hrc:=hr.cells
  have l1:=hrc.len
  have l2:=hc.len
  dsimp only at h1 h2 h
  obtain ⟨CS',g1,g2,g3⟩:=Qf6 hp (CS:=CS.take off++v.cells.toList++CS.drop (off+size)) t (((hc.take off).app hrc).app (hc.drop (off+size))) h
  refine ⟨CS',g1,?_,by rw [g3];simp;simp at l1;omega⟩
  unfold Instr.fill
  rw [hp i _ hpl]
  dsimp only
  have hs:v.cells.size=size:=by simp at l1;omega
  rw [if_neg (by simp [hs];omega)]
  have h3:=QeD v.cells.toList CS off 0
  have h4:(v.cells.zipIdx.foldl (fun cs (c,j)=>cs.setIfInBounds (off+j) c) CS.toArray)=(spl CS off v.cells.toList).toArray:=by
   rw [Nat.add_zero] at h3
   rw [← h3]
   conv=>lhs;rw [← Array.foldl_toList]
   rw [Array.toList_zipIdx]
  rw [h4,Qgs _ _ _ (by simp;omega)]
  have:v.cells.toList.length=size:=by simpa using hs
  rw [this]
  exact g2
theorem QiV (HC:CfgOk C P):∀ {fs:List Field} {pl:List (Nat × Nat)},placesA C fs=some pl->fs.mapM (fun f=>(P.info? f.type).map fun i=>(f.offset,i.size))=some pl
 | [],_,h=>by cases h;rfl
 | f :: fs,pl,h=>by
  have h:((szA C f.type).bind fun k=>(placesA C fs).map fun l=>(f.offset,k) :: l)=some pl:=h
  obtain ⟨k,hk,h⟩:=bind_some h
  obtain ⟨l,hl,h⟩:=map_some h
  subst h
  obtain ⟨i,hi,hs,_⟩:=Qh6 HC hk
  rw [List.mapM_cons,hi,QiV HC hl,← hs]
  rfl
include HC
theorem QrT {t:Nat} {ps:Array (Nat × Operand)} {a:AV} (H:HE n env e σ (ps.toList.map (·.2))) (h:((aevp n env ps.toList).bind (buildA C t))=some a):Qba P (.build t ps) e w σ a:=by
 obtain ⟨vs,hvs,h⟩:=bind_some h
 have hr:=QjY H hvs
 unfold buildA at h
 obtain ⟨z,hz,h⟩:=bind_some h
 obtain ⟨Z,_,hZr,i,hi,hiz⟩:=Qet HC hz
 have hzc:=(hZr σ).cells
 have fin:∀ cs CS,a = .ag cs->RelL σ cs CS->P.built t (ps.toList.map fun (p:Nat × Operand)=>(p.1,e p.2))=some CS.toArray->Qba P (.build t ps) e w σ a:=by
  rintro cs CS rfl hR hB
  refine ⟨_,.ag hR,fun ty=>?_⟩
  have h1:(ps.map fun (i,x)=>(i,e x)).toList=ps.toList.map fun (p:Nat × Operand)=>(p.1,e p.2):=by simp
  simp only [X,execOp,Sem.run_bind,run_build w t _ CS.toArray (by rw [h1];exact hB),Result.andThen_ok,Sem.run_pure]
 cases hd:und C t with
 | none=>rw [hd] at h;cases h
 | some d =>
 rw [hd] at h
 have hu:=Qdl HC hd
 cases d<;>dsimp only at h<;>first|(cases h;done)|skip
 ·obtain ⟨k,hk,h⟩:=bind_some h
  obtain ⟨cs,hf,h9⟩:=map_some h
  clear h
  obtain ⟨ie,hie,hs,_⟩:=Qh6 HC hk
  subst hs
  have h:=h9
  obtain ⟨CS,h1,h2,_⟩:=Qf6 (place:=fun i=>some (i*ie.size,ie.size)) (fun i p hp=>hp) hr hzc hf
  refine fin cs CS h.symm h1 ?_
  unfold Program.built
  rw [hi,hu]
  dsimp only
  rw [hiz,hie]
  dsimp only
  simpa using h2
 obtain ⟨pl,hpl,h⟩:=bind_some h
 obtain ⟨cs,hf,h⟩:=map_some h
 obtain ⟨CS,h1,h2,_⟩:=Qf6 (place:=(pl.toArray[·]?)) (fun i p hp=>by simpa using hp) hr hzc hf
 refine fin cs CS h.symm h1 ?_
 unfold Program.built
 rw [hi,hu]
 dsimp only
 rw [hiz,QiV HC hpl]
 dsimp only
 simpa using h2
omit HC
theorem QlT (zs:List Value) (N:Nat):((Array.range ((N+1)*zs.length)).map (fun i=>zs.toArray[i%zs.toArray.size]!)).toList=zs++((Array.range (N*zs.length)).map (fun i=>zs.toArray[i%zs.toArray.size]!)).toList:=by
 apply List.ext_getElem?
 intro i
 simp only [Array.toList_map,Array.toList_range,List.size_toArray]
 rw [List.getElem?_append]
 by_cases h:i<zs.length
 ·rw [if_pos h,List.getElem?_map,List.getElem?_range (by rw [Nat.add_mul];omega)]
  simp [Nat.mod_eq_of_lt h,h]
 rw [if_neg h]
 by_cases h2:i<(N+1)*zs.length
 ·rw [List.getElem?_map,List.getElem?_range h2,List.getElem?_map,List.getElem?_range (by rw [Nat.add_mul] at h2;omega)]
  simp only [Option.map_some]
  rw [Nat.mod_eq_sub_mod (by omega)]
 rw [List.getElem?_eq_none (by simp;omega),List.getElem?_eq_none (by simp;rw [Nat.add_mul] at h2;omega)]
theorem Qgw {zc:List AV} {zs:List Value} (h:RelL σ zc zs):∀ N,RelL σ (repA zc N) ((Array.range (N*zs.length)).map (fun i=>zs.toArray[i%zs.toArray.size]!)).toList
 | 0=>by simp;exact .nil
 | N+1=>by
  rw [QlT zs]
  exact h.app (Qgw h N)
theorem Qn6 (zc:List AV):∀ N,(repA zc N).length=N*zc.length
 | 0=>by rw [Nat.zero_mul];rfl
 | N+1=>by
  show (zc++repA zc N).length=_
  rw [QQ7,Qn6 zc N,Nat.add_mul];omega
end
end Go.Ce
namespace Go.Ce
open Go.RowKit Go.Vx
variable [Tok]
def QcH (P:Program) (op:Op) (e:Operand->Value) (B:Nat) (w0:World) (M:Nat->Prop) (σ:Sig) (fr:Nat->Res) (m:Mem) (w:World) (r:AV × Mem):Prop :=
 ∀ hi,r.2.c<=hi->hi<=B->Fresh m.c hi σ fr m.h.get->∃ V w' σ',Rel σ' r.1 V/\SLe m.c r.2.c σ σ'/\Good B w0 M σ' fr r.2.h.get w'/\∀ ty,X P op ty e w = .ok (.value V) w'∨(V=undef/\X P op ty e w = .ok .skip w')
section
variable {C:Cfg} {P:Program} (HC:CfgOk C P) {n:Nat} {env:Tr AV} {e:Operand->Value} {σ:Sig} {w:World} {m:Mem} {B:Nat} {w0:World} {M:Nat->Prop} [Inv w0 M] {fr:Nat->Res} {op:Op}
theorem Qer (hg:Good B w0 M σ fr m.h.get w) {a:AV} {blk:AB} (hb:blk.live=true) (h:∃ o ee V,Qfl (σ.up m.c w.heap.size ee) blk ee o/\Rel (σ.up m.c w.heap.size ee) a V/\∀ ty,X P op ty e w = .ok (.value V) (w.alloc o)) :
  QcH P op e B w0 M σ fr m w (a,m.new blk):=by
 intro hi h1 h2 hf
 obtain ⟨o,ee,V,ho,hV,hX⟩:=h
 have h1:m.c+1<=hi:=h1
 obtain ⟨f1,f2,f3⟩:=hf m.c (Nat.le_refl _) (by omega)
 refine ⟨V,w.alloc o,σ.up m.c w.heap.size ee,hV,SLe.new f1 (Nat.le_refl _),?_,fun ty=>.inl (hX ty)⟩
 show Good B w0 M _ fr (m.h.put m.c (some blk)).get _
 rw [QbO]
 exact hg.new (by omega) f1 f3 f2 hb ho
theorem QlJ (hg:Good B w0 M σ fr m.h.get w) {a:AV} {blk:AB} (hb:blk.live=true) (h:∃ o ee V,Qfl (σ.up m.c w.heap.size ee) blk ee o/\Rel (σ.up m.c w.heap.size ee) a V/\∀ ty,X P op ty e w = .ok (.value V) (w.drew.alloc o)) :
  QcH P op e B w0 M σ fr m w (a,m.new blk):=by
 intro hi h1 h2 hf
 obtain ⟨o,ee,V,ho,hV,hX⟩:=h
 have h1:m.c+1<=hi:=h1
 obtain ⟨f1,f2,f3⟩:=hf m.c (Nat.le_refl _) (by omega)
 refine ⟨V,w.drew.alloc o,σ.up m.c w.heap.size ee,hV,SLe.new f1 (Nat.le_refl _),?_,fun ty=>.inl (hX ty)⟩
 show Good B w0 M _ fr (m.h.put m.c (some blk)).get _
 rw [QbO]
 exact Good.new (w:=w.drew) hg.drew (by omega) f1 f3 f2 hb ho
theorem QnX (hg:Good B w0 M σ fr m.h.get w) {a:AV} {x b ee:Nat} {blk blk':AB} {o':Obj} {w':World} {V:Value} (hx:m.h.get x=some blk) (hb:blk.live=true) (hb':blk'.live=true) (hσ:σ x=some (b,ee)) (ho':Qfl σ blk' ee o')
  (hsz:w'.heap.size=w.heap.size) (hos:w'.os=w.os) (ht:w'.tape=w.tape) (ho:w'.output=w.output) (hne:∀ c,c≠b->w'.heap[c]?=w.heap[c]?) (hat:w'.heap[b]?=some o') (hd:w.drawn<=w'.drawn) (hV:Rel σ a V)
  (hX:∀ ty,X P op ty e w = .ok (.value V) w'∨(V=undef/\X P op ty e w = .ok .skip w')):QcH P op e B w0 M σ fr m w (a,m.set x blk'):=by
 intro hi h1 h2 hf
 refine ⟨V,w',σ,hV,SLe.refl _ _ _,?_,hX⟩
 show Good B w0 M _ fr (m.h.put x (some blk')).get _
 rw [QbO]
 exact hg.put hx hb hb' hσ ho' hsz hos ht ho hne hat hd
theorem Qhf (hg:Good B w0 M σ fr m.h.get w) {a:AV} {x b ee T k:Nat} {cs cs':List AV} {ex:Bool} {vs vs' rest:List Value} {V:Value} (hx:m.h.get x=some (.row cs T k ex)) (hσ:σ x=some (b,ee)) (hh:w.heap[b]?=some (.cells (vs++rest).toArray T (0,0))) (hr:rest.length=cond ex (ee*k) 0) (hv:RelL σ cs' vs') (hV:Rel σ a V)
  (hX:∀ ty,X P op ty e w = .ok (.value V) (w.setRow b (vs'++rest).toArray)∨(V=undef/\X P op ty e w = .ok .skip (w.setRow b (vs'++rest).toArray))):QcH P op e B w0 M σ fr m w (a,m.set x (.row cs' T k ex)) :=
 QnX hg hx rfl rfl hσ ⟨vs',rest,hv,hr,rfl⟩ (by simp) rfl rfl rfl (w':=w.setRow b (vs'++rest).toArray) (fun c hc=>setRow_other w b c _ hc) (setRow_heap w b _ _ T _ hh) (Nat.le_refl _) hV hX
theorem Qcs (hg:Good B w0 M σ fr m.h.get w) {a:AV} (h:Qba P op e w σ a):QcH P op e B w0 M σ fr m w (a,m):=by
 intro hi h1 h2 hf
 obtain ⟨V,hV,hX⟩:=h
 exact ⟨V,w,σ,hV,SLe.refl _ _ _,hg,fun ty=>.inl (hX ty)⟩
theorem Qe7 {b off T:Nat} {vs rest news:List Value} (hh:w.heap[b]?=some (.cells (vs++rest).toArray T (0,0))) (hle:off+news.length<=vs.length) (h1:∀ u∈news,u.oneCell'=true) :
  (storeCells ⟨b,off,none⟩ news).run P w = .ok () (w.setRow b ((vs.take off++news++vs.drop (off+news.length))++rest).toArray):=by
 have h:=run_storeCells_at P b off T news 0 (vs++rest).toArray w hh (by simp;omega) h1
 rw [h]
 congr 2
 simp only [Nat.add_zero]
 rw [List.take_append_of_le_length (by omega),List.drop_append_of_le_length (by omega)]
 simp
include HC
theorem Qrp {t:Nat} {r:AV × Mem} (hg:Good B w0 M σ fr m.h.get w) (h:o_alloc C m t=some r):MLe m r.2/\QcH P (.alloc t) e B w0 M σ fr m w r:=by
 unfold o_alloc at h
 obtain ⟨z,hz,h⟩:=map_some h
 subst h
 obtain ⟨Z,hZ,hZr,_⟩:=Qet HC hz
 refine ⟨MLe.new _ _,Qer hg rfl ⟨.cells Z.cells t,0,.pointer (some ⟨w.heap.size,0,none⟩),⟨Z.cells.toList,[],(hZr _).cells,rfl,by simp⟩,.p Sig.up_self,fun ty=>?_⟩⟩
 simp only [X,execOp,Instr.alloc,Sem.run_bind,hZ w,Result.andThen_ok,newVar,newRow,run_newObj,Sem.run_pure]
 rfl
omit HC in
theorem QtW {t:Nat} {x:Operand} {r:AV × Mem} (H:HE n env e σ [x]) (hg:Good B w0 M σ fr m.h.get w) (h:o_box n env m t x=some r):MLe m r.2/\(Fresh m.c (m.c+1) σ fr m.h.get->QcH P (.box t x) e B w0 M σ fr m w r):=by
 unfold o_box at h
 obtain ⟨v,hv,h⟩:=map_some h
 subst h
 have hr:=H x (by simp) v hv
 refine ⟨MLe.new _ _,fun hf=>Qer hg rfl ⟨.cells (e x).cells t,0,.pointer (some ⟨w.heap.size,0,none⟩),⟨(e x).cells.toList,[],((hr.mono (Sig.le_up (hf _ (Nat.le_refl _) (Nat.lt_succ_self _)).1)).cells),rfl,by simp⟩,.p Sig.up_self,fun ty=>?_⟩⟩
 simp only [X,execOp,Instr.box,Sem.run_bind,Result.andThen_ok,newVar,newRow,run_newObj,Sem.run_pure]
 rfl
theorem QsN {t:Nat} {x y:Operand} {r:AV × Mem} (H:HE n env e σ [x,y]) (hg:Good B w0 M σ fr m.h.get w) (h:o_store C n env m t x y=some r):MLe m r.2/\QcH P (.store t x y) e B w0 M σ fr m w r:=by
 unfold o_store at h
 cases hx:aev n env x with
 | none=>rw [hx] at h;cases h
 | some v =>
 rw [hx] at h
 have r1:=H x (by simp) v hx
 generalize e1:e x=V1 at r1
 cases v<;>dsimp only at h<;>first|(cases h;done)|skip
 rename_i nm off
 cases r1 with|@p _ _ b ee hσ=>?_
 obtain ⟨v2,hy,h⟩:=bind_some h
 have r2:=H y (by simp) v2 hy
 generalize e2:e y=V2 at r2
 cases hb:m.h.get nm with
 | none=>rw [hb] at h;cases h
 | some blk =>
 rw [hb] at h
 cases blk<;>dsimp only at h<;>first|(cases h;done)|skip
 rename_i cs T k ex
 obtain ⟨b',e',vs,rest,h1,h2,h3,h4⟩:=hg.row hb
 rw [hσ] at h1;cases h1
 obtain ⟨q,hq,h⟩:=bind_some h
 obtain ⟨hc,h⟩:=Qam h
 cases h
 simp only [Bool.and_eq_true] at hc
 obtain ⟨⟨⟨c1,c2⟩,c3⟩,c4⟩:=hc
 have c1:=QdD c1
 have c2:=QQ8 c2
 have c4:=QhP c4
 have rc:=r2.cells
 have lc:=rc.len
 have hone:=rc.ones c3
 refine ⟨MLe.set _ c4,Qhf hg hb hσ h2 h4 (((h3.take off).app rc).app (h3.drop (off+q))) (.tu .nil) fun ty=>.inr ⟨rfl,?_⟩⟩
 have hq':V2.cells.toList.length=q:=by omega
 have hst:=Qe7 (P:=P) h2 (off:=off) (news:=V2.cells.toList) (by have:=h3.len;omega) hone
 rw [hq'] at hst
 have:¬V2.cells.size≠q:=by simp at hq';omega
 simp only [X,execOp,e1,e2,Instr.storeAt,Instr.sureAddr,storeVar,Sem.run_bind,Sem.run_pure,Result.andThen_ok,Qfx HC hq w,this,if_false,hst]
theorem Qwy {t:Nat} {x:Option Operand} {r:AV × Mem} (H:HE n env e σ x.toList) (hg:Good B w0 M σ fr m.h.get w) (h:o_mm C n env m t x=some r):MLe m r.2/\QcH P (.makeMap t x) e B w0 M σ fr m w r:=by
 unfold o_mm at h
 have key:r=(.m m.c,m.new (.mp [] 0))/\∀ ty,X P (.makeMap t x) ty e w = .ok (.value (.map (some w.heap.size))) (w.alloc (.map #[] 0)):=by
  cases x with
  | none =>
   cases h
   refine ⟨rfl,fun ty=>?_⟩
   simp only [X,execOp,Instr.makeMap,Option.map_none,Sem.run_bind,Sem.run_pure,Result.andThen_ok,run_newObj]
   rfl
  | some y =>
   dsimp only at h
   cases hy:aev n env y with
   | none=>rw [hy] at h;cases h
   | some v =>
   rw [hy] at h
   have r1:=H y (by simp) v hy
   generalize e1:e y=V1 at r1
   cases v<;>dsimp only at h<;>first|(cases h;done)|skip
   cases r1
   cases hd:und C t with
   | none=>rw [hd] at h;cases h
   | some d =>
   rw [hd] at h
   cases d<;>dsimp only at h<;>first|(cases h;done)|skip
   cases h
   refine ⟨rfl,fun ty=>?_⟩
   simp only [X,execOp,Instr.makeMap,Option.map_some,e1,Sem.run_bind,Sem.run_pure,Result.andThen_ok,Qbm HC hd w,asInt,asIntOf,run_newObj]
   rfl
 obtain ⟨rfl,hX⟩:=key
 exact ⟨MLe.new _ _,Qer hg rfl ⟨.map #[] 0,0,.map (some w.heap.size),⟨[],.nil,rfl⟩,.m Sig.up_self,hX⟩⟩
theorem Qwd {t len:Nat} {ps:Array (Nat × Operand)} {r:AV × Mem} (H:HE n env e σ (ps.toList.map (·.2))) (hg:Good B w0 M σ fr m.h.get w) (h:o_bs C n env m t len ps=some r):MLe m r.2/\(Fresh m.c (m.c+1) σ fr m.h.get->QcH P (.buildSlice t len ps) e B w0 M σ fr m w r):=by
 unfold o_bs at h
 cases hd:und C t with
 | none=>rw [hd] at h;cases h
 | some d =>
 rw [hd] at h
 cases d<;>dsimp only at h<;>first|(cases h;done)|skip
 rename_i el
 obtain ⟨k,hk,h⟩:=bind_some h
 obtain ⟨z,hz,h⟩:=bind_some h
 obtain ⟨vs,hvs,h⟩:=bind_some h
 obtain ⟨hc,h⟩:=Qam h
 obtain ⟨cs,hf,h⟩:=map_some h
 subst h
 rw [Bool.and_eq_true] at hc
 have c1:=QQ8 hc.1
 have c2:=QdD hc.2
 have hr:=QjY H hvs
 obtain ⟨Z,hZ,hZr,i,hi,hiz⟩:=Qet HC hz
 obtain ⟨i',hi',hs,_⟩:=Qh6 HC hk
 rw [hi] at hi';cases hi'
 subst hs
 have hzl:=(hZr σ).cells.len
 have hzr:=Qgw (hZr σ).cells len
 have hzs:Z.cells.toList.length=i.size:=by omega
 rw [hzs] at hzr
 obtain ⟨CS,g1,g2,g3⟩:=Qf6 (place:=fun j=>some (j*i.size,i.size)) (fun i p hp=>hp) hr hzr hf
 refine ⟨MLe.new _ _,fun hfr=>Qer hg rfl ⟨.cells CS.toArray el,0,.slice (some ⟨w.heap.size,0,none⟩) len (len+0),⟨CS,[],g1.mono (Sig.le_up (hfr _ (Nat.le_refl _) (Nat.lt_succ_self _)).1),rfl,by simp⟩,.sl Sig.up_self,fun ty=>?_⟩⟩
 have hp:(ps.map fun (i,x)=>(i,e x)).toList=ps.toList.map fun (p:Nat × Operand)=>(p.1,e p.2):=by simp
 have hu:=Qbm HC hd w
 have hsz:(sizeOf el).run P w = .ok i.size w:=Qfx HC hk w
 have hne:¬len*i.size > 2 ^ 24:=by omega
 have hrun:(Instr.buildSlice t len (ps.map fun (i,x)=>(i,e x))).run P w = .ok (.slice (some ⟨w.heap.size,0,none⟩) len len) (w.alloc (.cells CS.toArray el)):=by
  by_cases h0:len*i.size=0
  ·have hz0:((Array.range (len*i.size)).map (fun j=>Z.cells.toList.toArray[j%Z.cells.toList.toArray.size]!)).toList=[]:=by rw [h0];simp
   rw [hz0] at g2
   have e0:((Array.range (len*i.size)).map (fun j=>(#[]:Array Value)[j%(#[]:Array Value).size]!)) = #[]:=Array.eq_empty_of_size_eq_zero (by simp [h0])
   have hne0:¬(0 > 2 ^ 24):=by decide
   simp only [Instr.buildSlice,Sem.run_bind,hu,Result.andThen_ok,hsz,hne0,if_false,h0,if_true,Sem.run_pure]
   simp only [h0] at e0
   simp only [e0,hp,g2]
   simp only [newRow,Sem.run_bind,run_newObj,Result.andThen_ok,Sem.run_pure]
   rfl
  exact run_buildSlice w t el len _ _ i Z (Qdl HC hd) hi hiz hne h0 (by rw [hp];exact (by simpa only [Array.toArray_toList] using g2))
 simp only [X,execOp,Sem.run_bind,hrun,Result.andThen_ok,Sem.run_pure]
 rfl
end
end Go.Ce
namespace Go.Ce
open Go.RowKit Go.Vx
variable [Tok]
theorem RelM.app {σ:Sig}:∀ {l m:List (AV × AV × Nat)} {vs us:List MapEntry},RelM σ l vs->RelM σ m us->RelM σ (l++m) (vs++us)
 | _,_,_,_,.nil,h=>h
 | _,_,_,_,.cons hk hv t,h'=>.cons hk hv (t.app h')
theorem RelM.set {σ:Sig}:∀ {l:List (AV × AV × Nat)} {vs:List MapEntry} (_h:RelM σ l vs) (i:Nat) {k v:AV} {K V:Value} {b:Nat},Rel σ k K->Rel σ v V->RelM σ (l.set i (k,v,b)) (vs.set i ⟨K,V,b⟩)
 | _,_,.nil,_,_,_,_,_,_,_,_=>.nil
 | _,_,.cons _ _ t,0,_,_,_,_,_,hk,hv=>.cons hk hv t
 | _,_,.cons hk' hv' t,i+1,_,_,_,_,_,hk,hv=>.cons hk' hv' (t.set i hk hv)
theorem RelM.erase {σ:Sig}:∀ {l:List (AV × AV × Nat)} {vs:List MapEntry} (_h:RelM σ l vs) (i:Nat),RelM σ (l.eraseIdx i) (vs.eraseIdx i)
 | _,_,.nil,_=>.nil
 | _,_,.cons _ _ t,0=>t
 | _,_,.cons hk hv t,i+1=>.cons hk hv (t.erase i)
theorem RelM.len {σ:Sig}:∀ {l:List (AV × AV × Nat)} {vs:List MapEntry},RelM σ l vs->vs.length=l.length
 | _,_,.nil=>rfl
 | _,_,.cons _ _ t=>by simp [t.len]
section
variable {C:Cfg} {P:Program} (HC:CfgOk C P) {n:Nat} {env:Tr AV} {e:Operand->Value} {σ:Sig} {w:World} {m:Mem} {B:Nat} {w0:World} {M:Nat->Prop} [Inv w0 M] {fr:Nat->Res} {op:Op}
def World.putObj (w:World) (b:Nat) (o:Obj):World:={ w with heap:=w.heap.setIfInBounds b o }
theorem QgZ {b:Nat} {o o':Obj} (h:w.heap[b]?=some o) (hc:∀ x y z,o≠.cells x y z):(setObj b o').run P w = .ok () (World.putObj w b o'):=by
 cases o with
 | cells a b c=>exact absurd rfl (hc a b c)
 | _=>simp only [setObj,Sem.run,h];rfl
theorem Qjg {b:Nat} {o o':Obj} (h:w.heap[b]?=some o):(World.putObj w b o').heap[b]?=some o':=by
 have:=(Array.getElem?_eq_some_iff.1 h).1
 simp [World.putObj,this]
theorem QjA {b c:Nat} {o':Obj} (h:c≠b):(World.putObj w b o').heap[c]?=w.heap[c]?:=by
 simp [World.putObj,Array.getElem?_setIfInBounds_ne (fun e=>h e.symm)]
theorem QiB (hg:Good B w0 M σ fr m.h.get w) {a:AV} {x b ee:Nat} {blk blk':AB} {o o':Obj} {V:Value} (hx:m.h.get x=some blk) (hb:blk.live=true) (hb':blk'.live=true) (hσ:σ x=some (b,ee)) (hh:w.heap[b]?=some o) (ho':Qfl σ blk' ee o') (hV:Rel σ a V)
  (hX:∀ ty,X P op ty e w = .ok (.value V) (World.putObj w b o')∨(V=undef/\X P op ty e w = .ok .skip (World.putObj w b o'))):QcH P op e B w0 M σ fr m w (a,m.set x blk') :=
 QnX (w':=World.putObj w b o') hg hx hb hb' hσ ho' (by simp [World.putObj]) rfl rfl rfl (fun c hc=>QjA hc) (Qjg hh) (Nat.le_refl _) hV hX
include HC
theorem Qts {t:Nat} {x y z:Operand} {r:AV × Mem} (ins:Bool) (H:HE n env e σ [x,y,z]) (hg:Good B w0 M σ fr m.h.get w) (h:o_map C n env m t x y z=some r):MLe m r.2/\QcH P (if ins then .insert t x y z else .mapUpdate t x y z) e B w0 M σ fr m w r:=by
 unfold o_map at h
 cases hx:aev n env x with
 | none=>rw [hx] at h;cases h
 | some v =>
 rw [hx] at h
 have r1:=H x (by simp) v hx
 generalize e1:e x=V1 at r1
 cases v<;>dsimp only at h<;>first|(cases h;done)|skip
 rename_i nm
 cases r1 with|@m _ b ee hσ=>?_
 obtain ⟨k,hk,h⟩:=bind_some h
 obtain ⟨v,hv,h⟩:=bind_some h
 have r2:=H y (by simp) k hk
 have r3:=H z (by simp) v hv
 generalize e2:e y=V2 at r2
 generalize e3:e z=V3 at r3
 cases hd:und C t with
 | none=>rw [hd] at h;cases h
 | some d =>
 rw [hd] at h
 cases d<;>dsimp only at h<;>first|(cases h;done)|skip
 rename_i kt el
 cases hb:m.h.get nm with
 | none=>rw [hb] at h;cases h
 | some blk =>
 rw [hb] at h
 cases blk<;>dsimp only at h<;>first|(cases h;done)|skip
 rename_i es clock
 obtain ⟨b',e',ves,h1,h2,h3⟩:=hg.mp hb
 rw [hσ] at h1;cases h1
 obtain ⟨hc,h⟩:=Qam h
 obtain ⟨q,hq,h⟩:=bind_some h
 rw [Bool.and_eq_true] at hc
 have c2:=QhP hc.2
 have hko:=hc.1
 obtain ⟨Q,hQ,hF,hsb,hck0⟩:=Qm9 HC hko r2 h3 hq
 have hck:=hck0 false
 have hgo:(getObj b).run P w = .ok (.map ves.toArray clock) w:=QdQ h2 (by simp)
 have fin:∀ o',(Instr.mapUpdate t (.map (some b)) V2 V3).run P w = .ok () (World.putObj w b o')->∀ ty,X P (if ins then .insert t x y z else .mapUpdate t x y z) ty e w = .ok (.value undef) (World.putObj w b o')∨(undef=undef/\X P (if ins then .insert t x y z else .mapUpdate t x y z) ty e w = .ok .skip (World.putObj w b o')):=fun o' ho ty=>.inr ⟨rfl,by
  cases ins<;>simp only [X,execOp,e1,e2,e3,ho,Sem.run_bind,Sem.run_pure,Result.andThen_ok,if_true,Bool.false_eq_true,if_false]⟩
 cases hF with
 | no =>
  cases h
  refine ⟨MLe.set _ c2,QiB hg hb rfl rfl hσ h2 (o':=.map (ves++[({ key:=V2,val:=V3,born:=clock }:MapEntry)]).toArray (clock+1)) ⟨_,h3.app (.cons (b:=clock) r2 r3 .nil),rfl⟩ (.tu .nil) (fin _ ?_)⟩
  simp only [Instr.mapUpdate,Sem.run_bind,Qbm HC hd w,Result.andThen_ok,hgo,hck w,hQ w,QgZ h2 (by simp)]
  simp
 | @yes i bb vv kk VV _ hat hr =>
  cases h
  obtain ⟨E,hE,hsame⟩:=hsb i vv bb rfl
  rw [hat] at hE;cases hE
  refine ⟨MLe.set _ c2,QiB hg hb rfl rfl hσ h2 (o':=.map (ves.set i ⟨V2,V3,bb⟩).toArray clock) ⟨_,h3.set i r2 r3,rfl⟩ (.tu .nil) (fin _ ?_)⟩
  have hst:(Instr.keyThatStays kk V2).run P w = .ok V2 w:=by
   have hsame:Instr.sameBits 10000 kk V2=true:=hsame
   simp only [Instr.keyThatStays,hsame,if_true,Sem.run_pure]
  have hmod:ves.toArray.modify i (fun e=>{ e with key:=V2,val:=V3 })=(ves.set i ⟨V2,V3,bb⟩).toArray:=by
   have hil:=Qav hat
   apply Array.ext'
   simp only [List.modify_toArray]
   apply List.ext_getElem?
   intro j
   rw [List.getElem?_modify,List.getElem?_set]
   by_cases hj:i=j
   ·subst hj;rw [hat,if_pos rfl,if_pos hil];simp
   simp [hj]
  simp only [Instr.mapUpdate,Sem.run_bind,Qbm HC hd w,Result.andThen_ok,hgo,hck w,hQ w,List.getElem?_toArray,hat,Option.map_some,Option.getD_some,hst,QgZ h2 (by simp),hmod]
theorem QvI {args:Array Operand} {ts:Array TypeId} {x k:AV} {V1 V2:Value} {d:TypeDesc} {r:AV × Mem} (hv:args.toList.map e=[V1,V2]) (r1:Rel σ x V1) (r2:Rel σ k V2) (hd:ts.toList.head?.bind (und C)=some d) (hg:Good B w0 M σ fr m.h.get w) (h:o_del C m d x k=some r):MLe m r.2/\QcH P (.call { callee:=.builtin .delete,args,argTypes:=ts }) e B w0 M σ fr m w r:=by
 obtain ⟨t,ht,hd⟩:=QdP hd
 unfold o_del at h
 cases d<;>dsimp only at h<;>first|(cases h;done)|skip
 rename_i kt el _
 cases x<;>dsimp only at h<;>first|(cases h;done)|skip
 rename_i nm
 cases r1 with|@m _ b ee hσ=>?_
 cases hb:m.h.get nm with
 | none=>rw [hb] at h;cases h
 | some blk =>
 rw [hb] at h
 cases blk<;>dsimp only at h<;>first|(cases h;done)|skip
 rename_i es clock
 obtain ⟨b',e',ves,h1,h2,h3⟩:=hg.mp hb
 rw [hσ] at h1;cases h1
 obtain ⟨hc,h⟩:=Qam h
 obtain ⟨q,hq,h⟩:=map_some h
 subst h
 rw [Bool.and_eq_true] at hc
 have c2:=QhP hc.2
 have hko:=hc.1
 obtain ⟨Q,hQ,hF,hsb,hck0⟩:=Qm9 HC hko r2 h3 hq
 have hck:=hck0 ves.toArray.isEmpty
 have hgo:(getObj b).run P w = .ok (.map ves.toArray clock) w:=QdQ h2 (by simp)
 have fin:∀ o',(∀ ty,(Builtin.delete_ ts ty #[.map (some b),V2]).run P w = .ok (.tuple #[]) (World.putObj w b o'))->∀ ty,X P (.call { callee:=.builtin .delete,args,argTypes:=ts }) ty e w = .ok (.value (.tuple #[])) (World.putObj w b o')∨(Value.tuple #[]=undef/\X P (.call { callee:=.builtin .delete,args,argTypes:=ts }) ty e w = .ok .skip (World.putObj w b o')):=fun o' ho ty=>.inl (by
  rw [QcK hv ty,BigFrame.builtin_delete]
  simp only [Sem.run_bind,ho ty,Result.andThen_ok,Sem.run_pure])
 cases hF with
 | no =>
  refine ⟨MLe.set _ c2,QiB hg hb rfl rfl hσ h2 (o':=.map ves.toArray clock) ⟨_,h3,rfl⟩ (.tu .nil) (fin _ fun ty=>?_)⟩
  simp only [Builtin.delete_,ht,List.getElem?_toArray,List.getElem?_cons_zero,List.getElem?_cons_succ,Sem.run_bind,Qbm HC hd w,Result.andThen_ok,hgo,hck w,hQ w,QgZ h2 (by simp),Sem.run_pure]
 | @yes i bb vv kk VV _ hat hr =>
  refine ⟨MLe.set _ c2,QiB hg hb rfl rfl hσ h2 (o':=.map (ves.eraseIdx i).toArray clock) ⟨_,h3.erase i,rfl⟩ (.tu .nil) (fin _ fun ty=>?_)⟩
  have her:ves.toArray.eraseIdxIfInBounds i=(ves.eraseIdx i).toArray:=by
   have hil:=Qav hat
   simp [Array.eraseIdxIfInBounds,hil]
  simp only [Builtin.delete_,ht,List.getElem?_toArray,List.getElem?_cons_zero,List.getElem?_cons_succ,Sem.run_bind,Qbm HC hd w,Result.andThen_ok,hgo,hck w,hQ w,her,QgZ h2 (by simp),Sem.run_pure]
theorem Qmt {t:Nat} {x:Operand} {r:AV × Mem} (H:HE n env e σ [x]) (hg:Good B w0 M σ fr m.h.get w) (h:o_range C n env m t x=some r):MLe m r.2/\(Fresh m.c (m.c+1) σ fr m.h.get->QcH P (.range t x) e B w0 M σ fr m w r):=by
 unfold o_range at h
 cases hd:und C t with
 | none=>rw [hd] at h;cases h
 | some d =>
 rw [hd] at h
 cases d<;>dsimp only at h<;>first|(cases h;done)|skip
 cases hx:aev n env x with
 | none=>rw [hx] at h;cases h
 | some v =>
 rw [hx] at h
 have r1:=H x (by simp) v hx
 generalize e1:e x=V1 at r1
 cases v<;>dsimp only at h<;>first|(cases h;done)|skip
 ·cases h;cases r1
  refine ⟨MLe.new _ _,fun hf=>Qer hg rfl ⟨.mapIter none 0 #[] 0,0,.pointer (some ⟨w.heap.size,0,none⟩),⟨none,rfl,by simp⟩,.p Sig.up_self,fun ty=>?_⟩⟩
  simp only [X,execOp,e1,Instr.range,Sem.run_bind,Qbm HC hd w,Result.andThen_ok,Sem.run_pure,run_newObj]
  rfl
 rename_i nm
 cases r1 with|@m _ b ee hσ=>?_
 cases hb:m.h.get nm with
 | none=>rw [hb] at h;cases h
 | some blk =>
 rw [hb] at h
 cases blk<;>dsimp only at h<;>first|(cases h;done)|skip
 rename_i es clock
 cases h
 obtain ⟨b',e',ves,h1,h2,h3⟩:=hg.mp hb
 rw [hσ] at h1;cases h1
 have hgo:(getObj b).run P w = .ok (.map ves.toArray clock) w:=QdQ h2 (by simp)
 refine ⟨MLe.new _ _,fun hf=>Qer hg rfl ⟨.mapIter (some b) clock #[] clock,0,.pointer (some ⟨w.heap.size,0,none⟩),⟨some b,⟨b,ee,Sig.le_up (hf _ (Nat.le_refl _) (Nat.lt_succ_self _)).1 _ _ hσ,rfl⟩,by simp⟩,.p Sig.up_self,fun ty=>?_⟩⟩
 simp only [X,execOp,e1,Instr.range,Sem.run_bind,Qbm HC hd w,Result.andThen_ok,hgo,Sem.run_pure,run_newObj]
 rfl
end
end Go.Ce
