/- A part of a proof: what functions of the program compute, and plain facts on that. -/
import Derived.Test.YtbkdlibbcepppaaGreatDoorShipBytesP1
import Derived.OpenShut
import Derived.ChangeArms
import Derived.ProofKit
import Derived.Deep.Slices
import Derived.KernelRfl
import Derived.Test.YtbkdlibbcepppaaGreatDoorProg
import Derived.WideKeyEntry
import Derived.Laws.CopyRow
import Derived.Lib.AppendZeros
import Derived.Lib.Overlaps
import Derived.Laws.Externs
import Derived.Laws.Cover3
import Derived.Laws.BytesArg
import Derived.Sort.EncStr
import Derived.MapKept
set_option linter.unusedVariables false
set_option linter.unusedSectionVars false
set_option linter.unusedSimpArgs false
set_option maxHeartbeats 4000000
set_option maxRecDepth 100000
namespace Go.Vx
structure Cen where
 cart:Int
 item:Int
 qty:Int
 kind:Int
 dot:Dot
 count:Int
 deriving DecidableEq
instance:Inhabited Cen:=⟨⟨0,0,0,0,⟨0,0⟩,0⟩⟩
def cec (e:Cen):List Value:=[.int .u16 e.cart,.int .u16 e.item,.int .u16 e.qty,.int .u8 e.kind,.int .u8 e.dot.rep,.int .u32 e.dot.seq,.int .u64 e.count]
structure Lst where
 cart:Int
 tick:Int
 deriving DecidableEq
instance:Inhabited Lst:=⟨⟨0,0⟩⟩
structure Sta where
 known:Vec
 ents:List Cen
 ticks:List Lst
def QuD (e:Cen):Prop:=(0<=e.cart/\e.cart<65536)/\(0<=e.item/\e.item<65536)/\(0<=e.qty/\e.qty<65536)/\(0<=e.kind/\e.kind<256)/\Qfk e.dot/\(0<=e.count/\e.count<18446744073709551616)
def Qns (x:Lst):Prop:=(0<=x.cart/\x.cart<65536)/\(0<=x.tick/\x.tick<4294967296)
def Qej (a b:Cen):Bool:=if a.cart=b.cart then (if a.dot.rep=b.dot.rep then decide (a.dot.seq<b.dot.seq) else decide (a.dot.rep<b.dot.rep)) else decide (a.cart<b.cart)
theorem QeE (a b:Cen):Qej a b=true↔(a.cart<b.cart∨(a.cart=b.cart/\(a.dot.rep<b.dot.rep∨(a.dot.rep=b.dot.rep/\a.dot.seq<b.dot.seq)))):=by
 unfold Qej
 split
 ·split
  ·rw [decide_eq_true_iff];omega
  ·rw [decide_eq_true_iff];omega
 ·rw [decide_eq_true_iff];omega
theorem Qgz {a b c:Cen} (h:Qej a b=true) (g:Qej b c=true):Qej a c=true:=by rw [QeE] at *;omega
theorem QcZ (a:Cen):Qej a a=false:=by
 rw [Bool.eq_false_iff,ne_eq,QeE];omega
def Qn1 (l:List Cen):Prop:=l.Pairwise fun a b=>Qej a b=true
theorem Qss {l m:List Cen} (hl:Qn1 l) (hm:Qn1 m) (h:∀ x,x∈l↔x∈m):l=m:=by
 induction l generalizing m with
 | nil =>
  cases m with
  | nil=>rfl
  | cons b m=>exact absurd ((h b).2 (by simp)) (by simp)
 | cons a l ih =>
  cases m with
  | nil=>exact absurd ((h a).1 (by simp)) (by simp)
  | cons b m =>
   rw [Qn1,List.pairwise_cons] at hl hm
   have hab:a=b:=by
    rcases List.mem_cons.1 ((h a).1 (by simp)) with e|e
    ·exact e
    ·rcases List.mem_cons.1 ((h b).2 (by simp)) with e2|e2
     ·exact e2.symm
     ·have:=Qgz (hl.1 b e2) (hm.1 a e)
      rw [QcZ] at this;cases this
   subst hab
   congr 1
   refine ih hl.2 hm.2 fun x=>?_
   have hx:=h x
   simp only [List.mem_cons] at hx
   constructor
   ·intro hxl
    rcases hx.1 (.inr hxl) with e|e
    ·subst e;have:=hl.1 x hxl;rw [QcZ] at this;cases this
    ·exact e
   ·intro hxm
    rcases hx.2 (.inr hxm) with e|e
    ·subst e;have:=hm.1 x hxm;rw [QcZ] at this;cases this
    ·exact e
def Qlh (l:List Lst):Prop:=l.Pairwise fun a b=>a.cart<b.cart
theorem QsV {l m:List Lst} (hl:Qlh l) (hm:Qlh m) (h:∀ x,x∈l↔x∈m):l=m:=by
 induction l generalizing m with
 | nil =>
  cases m with
  | nil=>rfl
  | cons b m=>exact absurd ((h b).2 (by simp)) (by simp)
 | cons a l ih =>
  cases m with
  | nil=>exact absurd ((h a).1 (by simp)) (by simp)
  | cons b m =>
   rw [Qlh,List.pairwise_cons] at hl hm
   have hab:a=b:=by
    rcases List.mem_cons.1 ((h a).1 (by simp)) with e|e
    ·exact e
    ·rcases List.mem_cons.1 ((h b).2 (by simp)) with e2|e2
     ·exact e2.symm
     ·have h1:=hl.1 b e2;have h2:=hm.1 a e;omega
   subst hab
   congr 1
   refine ih hl.2 hm.2 fun x=>?_
   have hx:=h x
   simp only [List.mem_cons] at hx
   constructor
   ·intro hxl
    rcases hx.1 (.inr hxl) with e|e
    ·subst e;have:=hl.1 x hxl;omega
    ·exact e
   ·intro hxm
    rcases hx.2 (.inr hxm) with e|e
    ·subst e;have:=hm.1 x hxm;omega
    ·exact e
def QbZ (ts:List Lst) (c:Int):Option Int:=(ts.find? fun x=>decide (x.cart=c)).map (·.tick)
def Qkx (e:Cen):Bool:=if e.kind=1 then decide (1<=e.qty) else if e.kind=2 then true else decide (e.kind=4)&&(decide (e.item=0)&&decide (e.qty=0))
def Qwc (s:Sta) (e:Cen):Bool:=(QbZ s.ticks e.cart).isSome&&Qkx e&&QeM s.known e.dot&&decide (1<=e.count)&&decide (e.count<=16777217)
structure RightC (s:Sta):Prop where
 known:QaE s.known 16=true
 rt:Qlh s.ticks
 tick:∀ x∈s.ticks,x.tick<=1073741824
 re:Qn1 s.ents
 ent:∀ e∈s.ents,Qwc s e=true
 nd:(s.ents.map (·.dot)).Nodup
def QnT (e:Cen):Opn:=⟨e.dot,e.kind,e.cart,e.item,e.qty,0,vzero⟩
def Qr7 (o:Opn):Cen:=⟨o.cart,o.item,o.qty,o.kind,o.dot,QoM o⟩
theorem QiI (o x:Opn):QeL o (QnT (Qr7 x))=QeL o x:=rfl
def Qri (e:Cen):List Cen->List Cen
 | []=>[e]
 | x :: l=>if Qej e x=true then e :: x :: l else x :: Qri e l
theorem QfV {e x:Cen}:∀ {l:List Cen},x∈Qri e l↔x=e∨x∈l
 | []=>by simp [Qri]
 | y :: l=>by
  unfold Qri;split
  ·simp
  ·rw [List.mem_cons,QfV,List.mem_cons]
   constructor
   ·rintro (h|h|h)
    ·exact .inr (.inl h)
    ·exact .inl h
    ·exact .inr (.inr h)
   ·rintro (h|h|h)
    ·exact .inr (.inl h)
    ·exact .inl h
    ·exact .inr (.inr h)
theorem Qkz {a b:Cen} (h:a.dot≠b.dot):Qej a b=true∨Qej b a=true:=by
 have hd:¬(a.dot.rep=b.dot.rep/\a.dot.seq=b.dot.seq):=fun ⟨h1,h2⟩=>h (by cases ha:a.dot;cases hb:b.dot;rw [ha,hb] at h1 h2;simp_all)
 rw [QeE,QeE];omega
theorem Qli {e:Cen}:∀ {l:List Cen},Qn1 l->e.dot ∉ l.map (·.dot)->Qn1 (Qri e l)
 | [],_,_=>by simp [Qri,Qn1]
 | x :: l,h,hn=>by
  rw [List.map_cons,List.mem_cons] at hn
  have hx:=List.pairwise_cons.1 h
  unfold Qri;split
  ·rename_i ha
   refine List.pairwise_cons.2 ⟨fun y hy=>?_,h⟩
   rcases List.mem_cons.1 hy with e1|e1
   ·subst e1;exact ha
   ·exact Qgz ha (hx.1 y e1)
  ·rename_i ha
   refine List.pairwise_cons.2 ⟨fun y hy=>?_,Qli hx.2 fun hm=>hn (.inr hm)⟩
   rcases QfV.1 hy with e1|e1
   ·subst e1
    rcases Qkz (a:=y) (b:=x) (fun e2=>hn (.inl e2)) with g|g
    ·exact absurd g ha
    ·exact g
   ·exact hx.1 y e1
def QiG (c t:Int):List Lst->List Lst
 | []=>[⟨c,t⟩]
 | x :: l=>if x.cart=c then ⟨c,max x.tick t⟩ :: l else if c<x.cart then ⟨c,t⟩ :: x :: l else x :: QiG c t l
theorem Qi6 {c t d:Int}:∀ {l:List Lst},Qlh l->QbZ (QiG c t l) d=if d=c then some (match QbZ l c with|none=>t|some u=>max u t) else QbZ l d
 | [],_=>by
  unfold QiG QbZ
  by_cases h:d=c
  ·subst h;simp
  ·simp [h,show ¬c=d from fun e=>h e.symm]
 | x :: l,h=>by
  have hx:=List.pairwise_cons.1 h
  unfold QiG
  split
  ·rename_i hc
   by_cases hd:d=c
   ·subst hd;simp [QbZ,hc]
   ·simp [QbZ,hc,hd,show ¬c=d from fun e=>hd e.symm]
  ·rename_i hc
   split
   ·rename_i hlt
    have hno:QbZ (x :: l) c=none:=by
     unfold QbZ
     rw [Option.map_eq_none_iff,List.find?_eq_none]
     intro y hy
     rcases List.mem_cons.1 hy with e1|e1
     ·subst e1;simpa using hc
     ·have:=hx.1 y e1;simp;omega
    by_cases hd:d=c
    ·subst hd;rw [if_pos rfl,hno];simp [QbZ]
    ·rw [if_neg hd];simp [QbZ,show ¬c=d from fun e=>hd e.symm]
   ·have ih:=Qi6 (c:=c) (t:=t) (d:=d) hx.2
    by_cases hd:x.cart=d
    ·subst hd
     rw [if_neg hc];simp [QbZ]
    ·have e1:QbZ (x :: QiG c t l) d=QbZ (QiG c t l) d:=by simp [QbZ,hd]
     have e2:QbZ (x :: l) d=QbZ l d:=by simp [QbZ,hd]
     have e3:QbZ (x :: l) c=QbZ l c:=by simp [QbZ,hc]
     rw [e1,ih,e2,e3]
theorem QkZ {c t:Int} {x:Lst}:∀ {l:List Lst},x∈QiG c t l->x.cart=c∨x∈l
 | [],h=>by simp [QiG] at h;subst h;exact .inl rfl
 | y :: l,h=>by
  unfold QiG at h
  split at h
  ·rcases List.mem_cons.1 h with e|e
   ·subst e;exact .inl rfl
   ·exact .inr (by simp [e])
  ·split at h
   ·rcases List.mem_cons.1 h with e|e
    ·subst e;exact .inl rfl
    ·exact .inr e
   ·rcases List.mem_cons.1 h with e|e
    ·subst e;exact .inr (by simp)
    ·rcases QkZ e with g|g
     ·exact .inl g
     ·exact .inr (by simp [g])
theorem QlQ {c t:Int}:∀ {l:List Lst},Qlh l->Qlh (QiG c t l)
 | [],_=>by simp [QiG,Qlh]
 | x :: l,h=>by
  have hx:=List.pairwise_cons.1 h
  unfold QiG;split
  ·rename_i hc
   exact List.pairwise_cons.2 ⟨fun y hy=>by have:=hx.1 y hy;show c<y.cart;omega,hx.2⟩
  ·split
   ·rename_i hlt
    refine List.pairwise_cons.2 ⟨fun y hy=>?_,h⟩
    rcases List.mem_cons.1 hy with e|e
    ·subst e;exact hlt
    ·have:=hx.1 y e;show c<y.cart;omega
   ·refine List.pairwise_cons.2 ⟨fun y hy=>?_,QlQ hx.2⟩
    rcases QkZ hy with e|e
    ·rw [e];omega
    ·exact hx.1 y e
theorem Qib {l:List Lst} (h:Qlh l) (x:Lst):x∈l↔QbZ l x.cart=some x.tick:=by
 induction l with
 | nil=>simp [QbZ]
 | cons y l ih =>
  have hy:=List.pairwise_cons.1 h
  rw [List.mem_cons]
  by_cases he:y.cart=x.cart
  ·have e1:QbZ (y :: l) x.cart=some y.tick:=by simp [QbZ,he]
   rw [e1]
   constructor
   ·rintro (e|e)
    ·subst e;rfl
    ·have:=hy.1 x e;omega
   ·intro e
    left
    cases x;cases y
    simp at he e
    subst he;subst e;rfl
  ·have e1:QbZ (y :: l) x.cart=QbZ l x.cart:=by simp [QbZ,he]
   rw [e1,← ih hy.2]
   constructor
   ·rintro (e|e)
    ·subst e;exact absurd rfl he
    ·exact e
   ·exact .inr
theorem Qpz {l m:List Lst} (hl:Qlh l) (hm:Qlh m) (h:∀ c,QbZ l c=QbZ m c):l=m :=
 QsV hl hm fun x=>by rw [Qib hl,Qib hm,h]
end Go.Vx
namespace Go.Vx
def QbU (o:Opn):Bool:=if o.kind=1 then decide (1<=o.qty) else if o.kind=2 then true else if o.kind=3 then decide (o.qty=0) else if o.kind=4∨o.kind=5 then decide (o.item=0)&&decide (o.qty=0) else false
def QaI (o:Opn):Bool:=decide (o.dot.rep<16)&&QdI o.dot&&QaE o.ctx 16&&decide (vat o.ctx o.dot.rep.toNat=o.dot.seq-1)&&decide (o.tick<=1073741824)&&QbU o
def QjN (known:Vec) (o:Opn):Int:=if QaI o=false then 2 else if QeM known o.dot=true then 8 else if vle o.ctx known=false then 9 else 0
def QbE (l:List Opn):Vec:=l.foldl (fun v o=>vset v o.dot.rep.toNat o.dot.seq) vzero
theorem Qex (l:List Opn) (o:Opn):QbE (l++[o])=vset (QbE l) o.dot.rep.toNat o.dot.seq:=by unfold QbE;rw [List.foldl_append];rfl
structure DotP (d:Dot):Prop where
 r0:0<=d.rep
 r1:d.rep<16
 s0:1<=d.seq
 s1:d.seq<=1048576
theorem DotP.b {d:Dot} (h:DotP d):QdI d=true:=by
 obtain ⟨_,_,_,_⟩:=h
 simp [QdI];omega
theorem QfA {v:Vec} {d:Dot} (h:DotP d):QeM v d=true↔d.seq<=vat v d.rep.toNat:=by
 unfold QeM;rw [h.b,Bool.true_and,decide_eq_true_iff]
inductive Seq:List Opn->Prop
 | nil:Seq []
 | snoc {l:List Opn} {o:Opn}:Seq l->QbK o->QaI o=true->DotP o.dot->o.dot ∉ l.map (·.dot)->(∀ d,DotP d->QeM o.ctx d=true->d∈l.map (·.dot))->Seq (l++[o])
theorem Seq.cut {l:List Opn} {o:Opn} (h:Seq (l++[o])):Seq l/\QbK o/\QaI o=true/\DotP o.dot/\o.dot ∉ l.map (·.dot)/\∀ d,DotP d->QeM o.ctx d=true->d∈l.map (·.dot):=by
 generalize hm:l++[o]=m at h
 cases h with
 | nil=>simp at hm
 | snoc h1 h2 h3 h4 h5 h6 =>
  obtain ⟨e1,e2⟩:=List.append_inj' hm rfl
  simp at e2
  subst e1;subst e2
  exact ⟨h1,h2,h3,h4,h5,h6⟩
theorem Seq.dots {l:List Opn} (h:Seq l):∀ o∈l,DotP o.dot/\QbK o/\QaI o=true:=by
 induction h with
 | nil=>intro o ho;cases ho
 | snoc _ h2 h3 h4 _ _ ih =>
  intro o ho
  rcases List.mem_append.1 ho with h|h
  ·exact ih o h
  ·rw [List.mem_singleton.1 h];exact ⟨h4,h2,h3⟩
theorem Seq.nodup {l:List Opn} (h:Seq l):(l.map (·.dot)).Nodup:=by
 induction h with
 | nil=>simp
 | snoc _ _ _ _ h5 _ ih =>
  rw [List.map_append,List.nodup_append]
  exact ⟨ih,by simp,fun a ha b hb e=>by simp at hb;subst hb;subst e;exact h5 ha⟩
theorem Seq.known {l:List Opn} (h:Seq l):(∀ i,0<=vat (QbE l) i/\vat (QbE l) i<=1048576)/\∀ d,DotP d->(d.seq<=vat (QbE l) d.rep.toNat↔d∈l.map (·.dot)):=by
 induction h with
 | nil =>
  refine ⟨fun i=>?_,fun d hd=>?_⟩
  ·show 0<=vat vzero i/\vat vzero i<=_
   unfold vat vzero;split<;>omega
  ·show d.seq<=vat vzero _↔_
   have:=hd.s0
   have h0:vat vzero d.rep.toNat=0:=by unfold vat vzero;split<;>rfl
   rw [h0];simp;omega
 | @snoc l o h1 h2 h3 h4 h5 h6 ih =>
  have hr:o.dot.rep.toNat<16:=by have:=h4.r0;have:=h4.r1;omega
  have hctx:vat o.ctx o.dot.rep.toNat=o.dot.seq-1:=by
   unfold QaI at h3;simp only [Bool.and_eq_true,decide_eq_true_eq] at h3;exact h3.1.1.2
  have hlt:vat (QbE l) o.dot.rep.toNat<o.dot.seq:=by
   have:=(ih.2 o.dot h4).mp
   rcases Int.lt_or_le (vat (QbE l) o.dot.rep.toNat) o.dot.seq with g|g
   ·exact g
   ·exact absurd (this g) h5
  have hge:o.dot.seq-1<=vat (QbE l) o.dot.rep.toNat:=by
   by_cases h0:o.dot.seq=1
   ·have:=(ih.1 o.dot.rep.toNat).1;omega
   ·have hd:DotP ⟨o.dot.rep,o.dot.seq-1⟩:=⟨h4.r0,h4.r1,by have:=h4.s0;show 1<=o.dot.seq-1;omega,by have:=h4.s1;show o.dot.seq-1<=_;omega⟩
    exact (ih.2 _ hd).mpr (h6 _ hd ((QfA hd).mpr (by show o.dot.seq-1<=vat o.ctx o.dot.rep.toNat;omega)))
  rw [Qex]
  refine ⟨fun i=>?_,fun d hd=>?_⟩
  ·by_cases hi:i<16
   ·rw [QbP _ _ _ _ hi];split
    ·have:=h4.s0;have:=h4.s1;omega
    ·exact ih.1 i
   ·unfold vat;rw [dif_neg hi];omega
  ·have hdr:d.rep.toNat<16:=by have:=hd.r0;have:=hd.r1;omega
   rw [QbP _ _ _ _ hdr,List.map_append,List.mem_append,← ih.2 d hd]
   split
   ·rename_i he
    have hrep:d.rep=o.dot.rep:=by have:=hd.r0;have:=h4.r0;omega
    constructor
    ·intro hle
     by_cases e:d.seq=o.dot.seq
     ·right
      have:d=o.dot:=by cases hdd:d;cases hoo:o.dot;rw [hdd,hoo] at hrep e;simp_all
      subst this;simp
     ·left;rw [he];omega
    ·rintro (g|g)
     ·rw [he] at g;omega
     ·simp at g;subst g;exact Int.le_refl _
   ·rename_i he
    constructor
    ·exact .inl
    ·rintro (g|g)
     ·exact g
     ·simp at g;subst g;exact absurd rfl he
theorem Seq.has {l:List Opn} (h:Seq l) {d:Dot} (hd:DotP d):QeM (QbE l) d=true↔d∈l.map (·.dot):=by rw [QfA hd];exact h.known.2 d hd
def szero:Sta:=⟨vzero,[],[]⟩
def QlF (s:Sta) (o:Opn):Sta :=
 ⟨vset s.known o.dot.rep.toNat o.dot.seq,(if Qhj o=true then Qri (Qr7 o) (s.ents.filter fun e=>!QeL o (QnT e)) else s.ents.filter fun e=>!QeL o (QnT e)),QiG o.cart o.tick s.ticks⟩
def Qeg (l:List Opn):Sta:=l.foldl QlF szero
theorem QeO (l:List Opn) (o:Opn):Qeg (l++[o])=QlF (Qeg l) o:=by unfold Qeg;rw [List.foldl_append];rfl
theorem Qd1 (l:List Opn):(Qeg l).known=QbE l:=by
 refine QhS (motive:=fun l=>(Qeg l).known=QbE l) rfl (fun l o ih=>?_) l
 rw [QeO,Qex,← ih];rfl
theorem Seq.live_snoc {l:List Opn} {o:Opn} (h:Seq (l++[o])):(∀ x,QfD (l++[o]) x=(QfD l x&&!QeL o x))/\QfD (l++[o]) o=Qhj o:=by
 obtain ⟨h1,h2,h3,h4,h5,h6⟩:=h.cut
 refine ⟨fun x=>?_,?_⟩
 ·unfold QfD;rw [List.any_append,List.any_cons,List.any_nil,Bool.or_false]
  cases Qhj x<;>cases l.any (fun y=>QeL y x)<;>cases QeL o x<;>rfl
 ·unfold QfD
  have:((l++[o]).any fun x=>QeL x o)=false:=by
   rw [List.any_eq_false]
   intro x hx he
   have hhas:QeM x.ctx o.dot=true:=by
    unfold QeL at he;simp only [Bool.and_eq_true,decide_eq_true_eq] at he;exact he.1.2
   rcases List.mem_append.1 hx with g|g
   ·
    have key:∀ {l:List Opn},Seq l->∀ x∈l,∀ d,DotP d->QeM x.ctx d=true->d∈l.map (·.dot):=by
     intro l hl
     induction hl with
     | nil=>intro x hx;cases hx
     | snoc _ _ _ _ _ g6 ih =>
      intro x hx d hd hh
      rw [List.map_append,List.mem_append]
      rcases List.mem_append.1 hx with q|q
      ·exact .inl (ih x q d hd hh)
      ·rw [List.mem_singleton.1 q] at hh;exact .inl (g6 d hd hh)
    exact h5 (key h1 x g o.dot h4 hhas)
   ·rw [List.mem_singleton.1 g] at hhas;exact h5 (h6 _ h4 hhas)
  rw [this];simp
theorem Seq.ents {l:List Opn} (h:Seq l):Qn1 (Qeg l).ents/\∀ e,e∈(Qeg l).ents↔∃ o∈l,QfD l o=true/\e=Qr7 o:=by
 induction h with
 | nil=>exact ⟨by simp [Qeg,szero,Qn1],fun e=>by simp [Qeg,szero]⟩
 | @snoc l o h1 h2 h3 h4 h5 h6 ih =>
  have hl:=Seq.live_snoc (Seq.snoc h1 h2 h3 h4 h5 h6)
  rw [QeO]
  have hfR:Qn1 ((Qeg l).ents.filter fun e=>!QeL o (QnT e)):=List.Pairwise.sublist List.filter_sublist ih.1
  have hfm:∀ e,e∈((Qeg l).ents.filter fun e=>!QeL o (QnT e))↔∃ x∈l,QfD (l++[o]) x=true/\e=Qr7 x:=by
   intro e
   rw [List.mem_filter,ih.2]
   constructor
   ·rintro ⟨⟨x,hx,hlx,rfl⟩,hne⟩
    rw [QiI] at hne
    exact ⟨x,hx,by rw [hl.1,hlx,hne];rfl,rfl⟩
   ·rintro ⟨x,hx,hlx,rfl⟩
    rw [hl.1,Bool.and_eq_true] at hlx
    exact ⟨⟨x,hx,hlx.1,rfl⟩,by rw [QiI];exact hlx.2⟩
  show Qn1 (if Qhj o=true then _ else _)/\∀ e,e∈(if Qhj o=true then _ else _)↔_
  split
  ·rename_i hly
   refine ⟨Qli hfR ?_,fun e=>?_⟩
   ·intro hm
    obtain ⟨e,he,hd⟩:=List.mem_map.1 hm
    obtain ⟨x,hx,_,rfl⟩:=(hfm e).1 he
    exact h5 (List.mem_map.2 ⟨x,hx,hd⟩)
   ·rw [QfV,hfm]
    constructor
    ·rintro (rfl|⟨x,hx,g⟩)
     ·exact ⟨o,by simp,by rw [hl.2,hly],rfl⟩
     ·exact ⟨x,by simp [hx],g⟩
    ·rintro ⟨x,hx,g⟩
     rcases List.mem_append.1 hx with q|q
     ·exact .inr ⟨x,q,g⟩
     ·rw [List.mem_singleton.1 q] at g;exact .inl g.2
  ·rename_i hly
   refine ⟨hfR,fun e=>?_⟩
   rw [hfm]
   constructor
   ·rintro ⟨x,hx,g⟩;exact ⟨x,by simp [hx],g⟩
   ·rintro ⟨x,hx,g⟩
    rcases List.mem_append.1 hx with q|q
    ·exact ⟨x,q,g⟩
    ·rw [List.mem_singleton.1 q,hl.2] at g;exact absurd g.1 hly
def tmax (l:List Opn) (c:Int):Option Int:=l.foldl (fun a o=>if o.cart=c then some (match a with|none=>o.tick|some u=>max u o.tick) else a) none
theorem Qi9 (l:List Opn) (o:Opn) (c:Int):tmax (l++[o]) c=if o.cart=c then some (match tmax l c with|none=>o.tick|some u=>max u o.tick) else tmax l c:=by unfold tmax;rw [List.foldl_append];rfl
theorem Qdk (l:List Opn):Qlh (Qeg l).ticks/\∀ c,QbZ (Qeg l).ticks c=tmax l c:=by
 refine QhS (motive:=fun l=>Qlh (Qeg l).ticks/\∀ c,QbZ (Qeg l).ticks c=tmax l c) ⟨by simp [Qeg,szero,Qlh],fun c=>rfl⟩ (fun l o ih=>?_) l
 rw [QeO]
 refine ⟨QlQ ih.1,fun c=>?_⟩
 show QbZ (QiG _ _ _) c=_
 rw [Qi6 ih.1,Qi9,ih.2,ih.2]
 by_cases h:c=o.cart
 ·subst h;rw [if_pos rfl];first|done|(first|rw [if_pos rfl]|skip);first|done|(cases tmax l o.cart<;>rfl)
 ·rw [if_neg h,if_neg (fun e=>h e.symm)]
theorem QeV (l:List Opn) (c:Int):(tmax l c=none/\∀ o∈l,o.cart≠c)∨∃ t,tmax l c=some t/\(∃ o∈l,o.cart=c/\o.tick=t)/\∀ o∈l,o.cart=c->o.tick<=t:=by
 refine QhS (motive:=fun l=>(tmax l c=none/\∀ o∈l,o.cart≠c)∨∃ t,tmax l c=some t/\(∃ o∈l,o.cart=c/\o.tick=t)/\∀ o∈l,o.cart=c->o.tick<=t) (.inl ⟨rfl,fun o ho=>by cases ho⟩) (fun l a ih=>?_) l
 rw [Qi9]
 by_cases hc:a.cart=c
 ·right
  rw [if_pos hc]
  rcases ih with ⟨h1,h2⟩|⟨t,h1,⟨o,ho,h3,h4⟩,h5⟩
  ·refine ⟨a.tick,by rw [h1],⟨a,by simp,hc,rfl⟩,fun o ho hoc=>?_⟩
   rcases List.mem_append.1 ho with g|g
   ·exact absurd hoc (h2 o g)
   ·rw [List.mem_singleton.1 g];exact Int.le_refl _
  ·refine ⟨max t a.tick,by rw [h1],?_,fun o ho hoc=>?_⟩
   ·rcases Int.le_total t a.tick with g|g
    ·exact ⟨a,by simp,hc,by omega⟩
    ·exact ⟨o,by simp [ho],h3,by omega⟩
   ·rcases List.mem_append.1 ho with g|g
    ·have:=h5 o g hoc;omega
    ·rw [List.mem_singleton.1 g];omega
 ·rw [if_neg hc]
  rcases ih with ⟨h1,h2⟩|⟨t,h1,⟨o,ho,h3⟩,h5⟩
  ·refine .inl ⟨h1,fun o ho=>?_⟩
   rcases List.mem_append.1 ho with g|g
   ·exact h2 o g
   ·rw [List.mem_singleton.1 g];exact hc
  ·refine .inr ⟨t,h1,⟨o,by simp [ho],h3⟩,fun o ho hoc=>?_⟩
   rcases List.mem_append.1 ho with g|g
   ·exact h5 o g hoc
   ·rw [List.mem_singleton.1 g] at hoc;exact absurd hoc hc
end Go.Vx
namespace Go.Vx
theorem QhQ {α β:Type} {f:α->β}:∀ {l:List α},(l.map f).Nodup->∀ x∈l,∀ y∈l,f x=f y->x=y
 | [],_,x,hx,_,_,_=>by cases hx
 | a :: l,h,x,hx,y,hy,e=>by
  rw [List.map_cons,List.nodup_cons] at h
  rcases List.mem_cons.1 hx with p|p<;>rcases List.mem_cons.1 hy with q|q
  ·rw [p,q]
  ·subst p;exact absurd (List.mem_map.2 ⟨y,q,e.symm⟩) h.1
  ·subst q;exact absurd (List.mem_map.2 ⟨x,p,e⟩) h.1
  ·exact QhQ h.2 x p y q e
theorem Qn2 {o:Opn} (h:QaI o=true) (i:Nat):vat o.ctx i<=1048576:=by
 unfold QaI at h
 simp only [Bool.and_eq_true,decide_eq_true_eq] at h
 have h1:=h.1.1.1.2
 unfold QaE at h1
 simp only [Bool.and_eq_true,List.all_eq_true,List.mem_range] at h1
 by_cases hi:i<16
 ·have:=h1.2 i hi
  unfold QhF at this
  simp at this
  omega
 ·unfold vat;rw [dif_neg hi];omega
theorem Qq5 (f:Nat->Int) (b:Int) (h:∀ i,0<=f i/\f i<=b):∀ n:Nat,0<=((List.range n).map f).sum/\((List.range n).map f).sum<=(n:Int)*b
 | 0=>by simp
 | n+1=>by
  have ih:=Qq5 f b h n
  rw [List.range_succ,List.map_append,List.sum_append]
  have:=h n
  simp only [List.map_cons,List.map_nil,List.sum_cons,List.sum_nil]
  have e:((n+1:Nat):Int)*b=(n:Int)*b+b:=by rw [Int.natCast_add,Int.add_mul];simp
  omega
theorem QtC {o:Opn} (ho:QbK o) (h:QaI o=true):1<=QoM o/\QoM o<=16777217:=by
 have hv:=ho.2.2.2.2.2.2
 have:=Qq5 (fun i=>vat o.ctx i) 1048576 (fun i=>⟨by
  unfold vat;split
  ·exact (hv _).1
  ·omega,Qn2 h i⟩) 16
 unfold QoM vsum
 omega
theorem Qon {o:Opn}:Qhj o=true↔o.kind=1∨o.kind=2∨o.kind=4:=by unfold Qhj;simp [or_assoc]
theorem Qnn {l:List Opn} {o:Opn} (h:QfD l o=true):Qhj o=true:=by unfold QfD at h;rw [Bool.and_eq_true] at h;exact h.1
theorem Seq.right {l:List Opn} (h:Seq l):RightC (Qeg l):=by
 have hk:=h.known
 have he:=h.ents
 have ht:=Qdk l
 have hd:=h.dots
 refine ⟨?_,ht.1,fun x hx=>?_,he.1,fun e hm=>?_,?_⟩
 ·rw [Qd1]
  unfold QaE
  simp only [Bool.and_eq_true,List.all_eq_true,List.mem_range]
  refine ⟨by decide,fun i hi=>?_⟩
  have:=hk.1 i
  unfold QhF;simp;omega
 ·rw [Qib ht.1,ht.2] at hx
  rcases QeV l x.cart with ⟨h1,_⟩|⟨t,h1,⟨o,ho,_,h3⟩,_⟩
  ·rw [h1] at hx;cases hx
  ·rw [h1] at hx;cases hx
   have:=(hd o ho).2.2
   unfold QaI at this
   simp only [Bool.and_eq_true,decide_eq_true_eq] at this
   rw [← h3];exact this.1.2
 ·obtain ⟨o,ho,hl,rfl⟩:=(he.2 e).1 hm
  have hdo:=hd o ho
  have hc:=QtC hdo.2.1 hdo.2.2
  unfold Qwc
  simp only [Bool.and_eq_true,decide_eq_true_eq]
  refine ⟨⟨⟨⟨?_,?_⟩,?_⟩,hc.1⟩,hc.2⟩
  ·rw [ht.2]
   rcases QeV l o.cart with ⟨_,h2⟩|⟨t,h1,_⟩
   ·exact absurd rfl (h2 o ho)
   ·show (tmax l o.cart).isSome=true
    rw [h1];rfl
  ·have hr:=hdo.2.2
   unfold QaI at hr
   simp only [Bool.and_eq_true] at hr
   have hkk:=hr.2
   unfold QbU at hkk
   show Qkx (Qr7 o)=true
   unfold Qkx Qr7
   rcases Qon.1 (Qnn hl) with g|g|g
   ·simp [g] at hkk ⊢;exact hkk
   ·simp [g]
   ·simp [g] at hkk ⊢;exact hkk
  ·rw [Qd1]
   exact (h.has hdo.1).2 (List.mem_map.2 ⟨o,ho,rfl⟩)
 ·have hmap:(Qeg l).ents.map (·.dot)=(Qeg l).ents.map (·.dot):=rfl
  have hnd:=h.nodup
  have hinj:∀ a∈(Qeg l).ents,∀ b∈(Qeg l).ents,a.dot=b.dot->a=b:=by
   intro a ha b hb e
   obtain ⟨o,ho,_,rfl⟩:=(he.2 a).1 ha
   obtain ⟨p,hp,_,rfl⟩:=(he.2 b).1 hb
   rw [QhQ hnd o ho p hp e]
  unfold List.Nodup
  rw [List.pairwise_map]
  have hne:(Qeg l).ents.Pairwise (·≠·):=he.1.imp fun {a b} hab e=>by subst e;rw [QcZ] at hab;cases hab
  rw [List.pairwise_iff_getElem] at hne ⊢
  intro i j hi hj hij e
  exact hne i j hi hj hij (hinj _ (List.getElem_mem hi) _ (List.getElem_mem hj) e)
theorem Seq.ext {l m:List Opn} (hl:Seq l) (hm:Seq m) (h:∀ o,o∈l↔o∈m):Qeg l=Qeg m:=by
 have hdm:∀ d,d∈l.map (·.dot)↔d∈m.map (·.dot):=fun d=>by
  rw [List.mem_map,List.mem_map]
  constructor
  ·rintro ⟨o,ho,e⟩;exact ⟨o,(h o).1 ho,e⟩
  ·rintro ⟨o,ho,e⟩;exact ⟨o,(h o).2 ho,e⟩
 have hle:∀ {l m:List Opn},Seq l->Seq m->(∀ d,d∈l.map (·.dot)↔d∈m.map (·.dot))->∀ i,vat (QbE l) i<=vat (QbE m) i:=by
  intro l m hl hm hd i
  by_cases hi:i<16
  case neg=>unfold vat;rw [dif_neg hi,dif_neg hi];omega
  have b1:=hl.known.1 i
  have b2:=hm.known.1 i
  by_cases h0:vat (QbE l) i=0
  ·omega
  ·have hdp:DotP ⟨(i:Int),vat (QbE l) i⟩:=⟨by show (0:Int)<=(i:Int);omega,by show (i:Int)<16;omega,by show 1<=vat (QbE l) i;omega,b1.2⟩
   have:=(hm.known.2 _ hdp).2 ((hd _).1 ((hl.known.2 _ hdp).1 (by show vat (QbE l) i<=vat (QbE l) ((i:Int)).toNat;rw [Int.toNat_natCast];exact Int.le_refl _)))
   simpa using this
 have e1:(Qeg l).known=(Qeg m).known:=by
  rw [Qd1,Qd1]
  exact QjZ fun i _=>Int.le_antisymm (hle hl hm hdm i) (hle hm hl (fun d=>(hdm d).symm) i)
 have hlive:∀ o,QfD l o=QfD m o:=fun o=>by
  unfold QfD
  have:(l.any fun x=>QeL x o)=(m.any fun x=>QeL x o):=by
   rw [Bool.eq_iff_iff,List.any_eq_true,List.any_eq_true]
   constructor
   ·rintro ⟨x,hx,e⟩;exact ⟨x,(h x).1 hx,e⟩
   ·rintro ⟨x,hx,e⟩;exact ⟨x,(h x).2 hx,e⟩
  rw [this]
 have e2:(Qeg l).ents=(Qeg m).ents:=Qss hl.ents.1 hm.ents.1 fun e=>by
  rw [hl.ents.2,hm.ents.2]
  constructor
  ·rintro ⟨o,ho,g,q⟩;exact ⟨o,(h o).1 ho,by rw [← hlive];exact g,q⟩
  ·rintro ⟨o,ho,g,q⟩;exact ⟨o,(h o).2 ho,by rw [hlive];exact g,q⟩
 have e3:(Qeg l).ticks=(Qeg m).ticks:=Qpz (Qdk l).1 (Qdk m).1 fun c=>by
  rw [(Qdk l).2,(Qdk m).2]
  rcases QeV l c with ⟨h1,h2⟩|⟨t,h1,⟨o,ho,h3,h4⟩,h5⟩<;>rcases QeV m c with ⟨g1,g2⟩|⟨u,g1,⟨p,hp,g3,g4⟩,g5⟩
  ·rw [h1,g1]
  ·exact absurd g3 (h2 p ((h p).2 hp))
  ·exact absurd h3 (g2 o ((h o).1 ho))
  ·rw [h1,g1]
   have:=h5 p ((h p).2 hp) g3
   have:=g5 o ((h o).1 ho) h3
   congr 1;omega
 cases hx:Qeg l;cases hy:Qeg m
 rw [hx,hy] at e1 e2 e3
 simp at e1 e2 e3
 rw [e1,e2,e3]
end Go.Vx
namespace Go.Vx
theorem Qms {o:Opn} (ho:QbK o) (h:QaI o=true):DotP o.dot:=by
 unfold QaI at h
 simp only [Bool.and_eq_true,decide_eq_true_eq] at h
 have h1:=h.1.1.1.1.1
 have h2:=Qbf h.1.1.1.1.2
 exact ⟨ho.1.1.1,h1,h2.2.1,h2.2.2⟩
theorem QtI {a b:Vec} (h:vle a b=true) (i:Nat):vat a i<=vat b i:=by
 unfold vle at h
 rw [List.all_eq_true] at h
 by_cases hi:i<16
 ·simpa using h i (List.mem_range.2 hi)
 ·unfold vat;rw [dif_neg hi,dif_neg hi];exact Int.le_refl _
theorem QlX {known:Vec} {o:Opn} (h:QjN known o=0):QaI o=true/\QeM known o.dot=false/\vle o.ctx known=true:=by
 unfold QjN at h
 split at h
 ·omega
 ·split at h
  ·omega
  ·split at h
   ·omega
   ·rename_i h1 h2 h3
    simp at h1 h2 h3
    exact ⟨h1,h2,h3⟩
theorem Seq.add {l:List Opn} {o:Opn} (h:Seq l) (ho:QbK o) (hr:QjN (QbE l) o=0):Seq (l++[o]):=by
 obtain ⟨h1,h2,h3⟩:=QlX hr
 have hd:=Qms ho h1
 refine Seq.snoc h ho h1 hd (fun hm=>?_) fun d hdp hh=>?_
 ·rw [(h.has hd).2 hm] at h2;cases h2
 ·refine (h.has hdp).1 ((QfA hdp).2 (Int.le_trans ((QfA hdp).1 hh) (QtI h3 _)))
theorem Seq.ready {l:List Opn} {o:Opn} (h:Seq (l++[o])):QjN (QbE l) o=0:=by
 obtain ⟨h1,h2,h3,h4,h5,h6⟩:=h.cut
 unfold QjN
 rw [if_neg (by rw [h3];decide),if_neg (fun g=>h5 ((h1.has h4).1 g)),if_neg]
 rw [Bool.not_eq_false]
 refine Qsg fun j hj=>?_
 have hb:=Qn2 h3 j
 have h0:=(h1.known.1 j).1
 by_cases hz:vat o.ctx j<1
 ·omega
 ·have hdp:DotP ⟨(j:Int),vat o.ctx j⟩:=⟨by show (0:Int)<=(j:Int);omega,by show (j:Int)<16;omega,by show 1<=vat o.ctx j;omega,hb⟩
  have:=(h1.known.2 _ hdp).2 (h6 _ hdp ((QfA hdp).2 (by show vat o.ctx j<=vat o.ctx ((j:Int)).toNat;rw [Int.toNat_natCast];exact Int.le_refl _)))
  simpa using this
def Down (l:List Opn) (p:Opn->Bool):Prop:=∀ o∈l,p o=true->∀ d,DotP d->QeM o.ctx d=true->∃ q∈l,p q=true/\q.dot=d
theorem Seq.sub {l:List Opn} {p:Opn->Bool} (h:Seq l) (hp:Down l p):Seq (l.filter p):=by
 have key:∀ m:List Opn,Seq m->(∀ o∈m,o∈l)->Seq (m.filter p):=by
  intro m hm
  induction hm with
  | nil=>intro _;exact Seq.nil
  | @snoc m o h1 h2 h3 h4 h5 h6 ih =>
   intro hin
   have ih:=ih fun x hx=>hin x (List.mem_append_left _ hx)
   rw [List.filter_append]
   by_cases hpo:p o=true
   ·rw [List.filter_cons_of_pos hpo,List.filter_nil]
    refine Seq.snoc ih h2 h3 h4 (fun g=>h5 ?_) fun d hd hh=>?_
    ·obtain ⟨x,hx,e⟩:=List.mem_map.1 g
     exact List.mem_map.2 ⟨x,(List.mem_filter.1 hx).1,e⟩
    ·obtain ⟨x,hx,e⟩:=List.mem_map.1 (h6 d hd hh)
     obtain ⟨q,hq,hpq,eq⟩:=hp o (hin o (by simp)) hpo d hd hh
     have:=QhQ h.nodup x (hin x (List.mem_append_left _ hx)) q hq (e.trans eq.symm)
     subst this
     exact List.mem_map.2 ⟨x,List.mem_filter.2 ⟨hx,hpq⟩,e⟩
   ·rw [List.filter_cons_of_neg hpo,List.filter_nil,List.append_nil];exact ih
 exact key l h fun _ h=>h
end Go.Vx
namespace Go.Vx
def Qvd (a b:Cen):Bool:=if a.count=b.count then (if a.dot.rep=b.dot.rep then decide (a.dot.seq<b.dot.seq) else decide (a.dot.rep<b.dot.rep)) else decide (a.count<b.count)
end Go.Vx
namespace Go.Vx
theorem Qn4:∀ (n:Nat) (f:Nat->Int) (i:Nat) (x:Int),((List.range n).map fun j=>if j=i then x else f j).sum=((List.range n).map f).sum+(if i<n then x-f i else 0)
 | 0,_,_,_=>by simp
 | n+1,f,i,x=>by
  rw [List.range_succ,List.map_append,List.sum_append,List.map_append,List.sum_append,Qn4 n f i x]
  simp only [List.map_cons,List.map_nil,List.sum_cons,List.sum_nil]
  by_cases h:n=i
  ·subst h;simp;omega
  ·rw [if_neg h]
   by_cases h2:i<n
   ·rw [if_pos h2,if_pos (by omega)];omega
   ·rw [if_neg h2,if_neg (by omega)];omega
theorem Qqo {v:Vec} {i:Nat} {x:Int} (hi:i<16):vsum (vset v i x)=vsum v+(x-vat v i):=by
 unfold vsum
 have e:(List.range 16).map (fun j=>vat (vset v i x) j)=(List.range 16).map fun j=>if j=i then x else vat v j:=by
  refine List.map_congr_left fun j hj=>?_
  rw [QbP _ _ _ _ (List.mem_range.1 hj)]
 rw [e,Qn4,if_pos hi]
theorem Seq.next {l:List Opn} {o:Opn} (h:Seq (l++[o])):vat (QbE l) o.dot.rep.toNat=o.dot.seq-1:=by
 obtain ⟨h1,h2,h3,h4,h5,h6⟩:=h.cut
 have hctx:vat o.ctx o.dot.rep.toNat=o.dot.seq-1:=by
  unfold QaI at h3;simp only [Bool.and_eq_true,decide_eq_true_eq] at h3;exact h3.1.1.2
 have hlt:¬o.dot.seq<=vat (QbE l) o.dot.rep.toNat:=fun g=>h5 ((h1.known.2 o.dot h4).1 g)
 have h0:=(h1.known.1 o.dot.rep.toNat).1
 by_cases hz:o.dot.seq=1
 ·omega
 ·have hd:DotP ⟨o.dot.rep,o.dot.seq-1⟩:=⟨h4.r0,h4.r1,by have:=h4.s0;show 1<=o.dot.seq-1;omega,by have:=h4.s1;show o.dot.seq-1<=_;omega⟩
  have:=(h1.known.2 _ hd).2 (h6 _ hd ((QfA hd).2 (by show o.dot.seq-1<=vat o.ctx o.dot.rep.toNat;omega)))
  have:o.dot.seq-1<=vat (QbE l) o.dot.rep.toNat:=this
  omega
theorem Seq.sum {l:List Opn} (h:Seq l):vsum (QbE l)=l.length:=by
 induction h with
 | nil=>rfl
 | @snoc l o h1 h2 h3 h4 h5 h6 ih =>
  have hn:=Seq.next (Seq.snoc h1 h2 h3 h4 h5 h6)
  have hr:o.dot.rep.toNat<16:=by have:=h4.r0;have:=h4.r1;omega
  rw [Qex,Qqo hr,ih,hn,QQ7,List.length_singleton]
  omega
end Go.Vx
namespace Go.Vx
def QaC (o:Opn) (n:Int):Bool:=decide (o.dot.rep<n)&&QdI o.dot&&QaE o.ctx n&&decide (vat o.ctx o.dot.rep.toNat=o.dot.seq-1)&&decide (o.tick<=1073741824)&&QbU o
theorem Qiv {v:Vec} {n:Int} (h:QaE v n=true):1<=n/\n<=16:=by
 unfold QaE at h
 simp only [Bool.and_eq_true,Bool.not_eq_true',Bool.or_eq_false_iff,decide_eq_false_iff_not] at h
 omega
theorem Qo3 {o:Opn} {n:Int} (h:(((!QaE o.ctx n||decide (n<=o.dot.rep))||decide (1073741824<o.tick))||!QbU o)=true):QaC o n=false:=by
 unfold QaC
 simp only [Bool.or_eq_true,Bool.not_eq_true',decide_eq_true_eq] at h
 rcases h with ((h|h)|h)|h
 ·rw [h];simp
 ·rw [QQ4 (by omega:¬o.dot.rep<n)];simp
 ·rw [QQ4 (by omega:¬o.tick<=1073741824)];simp
 ·rw [h];simp
theorem Qqk {o:Opn} {n:Int} (h1:QaE o.ctx n=true) (h2:¬n<=o.dot.rep) (h3:¬1073741824<o.tick) (h4:QbU o=true) :
  QaC o n=(decide (1<=o.dot.seq)&&decide (o.dot.seq<=1048576)&&decide (vat o.ctx o.dot.rep.toNat=o.dot.seq-1)):=by
 have:=Qiv h1
 unfold QaC QdI
 rw [h1,h4,QQ3 (by omega:o.dot.rep<n),QQ3 (by omega:o.tick<=1073741824),QQ3 (by omega:o.dot.rep<16)]
 simp
theorem Qou {o:Opn} {n:Int} (h:((((decide (n<1)||decide (16<n))||decide (n<=o.dot.rep))||!QdI o.dot)||!QaE o.ctx n)=true):QaC o n=false:=by
 unfold QaC
 simp only [Bool.or_eq_true,Bool.not_eq_true',decide_eq_true_eq] at h
 rcases h with (((h|h)|h)|h)|h
 ·rw [Qfg (by simp [h])];simp
 ·rw [Qfg (by simp [h])];simp
 ·rw [QQ4 (by omega:¬o.dot.rep<n)];simp
 ·rw [h];simp
 ·rw [h];simp
theorem Qop {o:Opn} {n:Int} (h2:¬n<=o.dot.rep) (h3:QdI o.dot=true) (h1:QaE o.ctx n=true) :
  QaC o n=(decide (vat o.ctx o.dot.rep.toNat=o.dot.seq-1)&&decide (o.tick<=1073741824)&&QbU o):=by
 unfold QaC
 rw [h1,h3,QQ3 (by omega:o.dot.rep<n)]
 simp
end Go.Vx
namespace Go.Vx
theorem Qrk {o:Opn} {i:Int} (h0:0<=i) (h:i<16):(oc o)[0+7+i.toNat]?=some (.int .u32 (vat o.ctx i.toNat)):=by
 rw [show 0+7+i.toNat=7+i.toNat by omega]
 exact QvO (by omega)
end Go.Vx
namespace Go.Vx
theorem QpZ {p:Nat->Bool} {k:Nat} (h:∀ j:Nat,j<k->p j=false) (hk:p k=false):∀ j:Nat,j<k+1->p j=false:=by
 intro j hj
 by_cases e:j=k
 ·subst e;exact hk
 ·exact h j (by omega)
end Go.Vx
namespace Go.Vx
open Go.RowKit Go.ChangeShapes Go.WideShapes Go.ChangeAt
def Qfp (P:Program) (t:TypeId) {α:Type} (en:α->List Value) (ok:α->Prop):Prop :=
 ∀ (H:Type) (enc:TypeId × Value->H) (w:World) (base:Nat) (spare:Nat->Bool) (held:Bool) (fuel:Nat) (cs:List Value) (x:DataW H × List MemPlace),DataW.trod enc P w base spare held fuel t cs=some x->∃ a,ok a/\cs=en a
def inK (k:IntKind) (a:Int):Prop:=(Lit.int k a).wf=true
theorem QkC {a:Int} (h:inK .u32 a):0<=a/\a<4294967296:=by
 unfold inK at h
 simp [Lit.wf,IntKind.min,IntKind.max,IntKind.signed,IntKind.bits] at h
 omega
theorem Qke {a:Int} (h:inK .u16 a):0<=a/\a<65536:=by
 unfold inK at h
 simp [Lit.wf,IntKind.min,IntKind.max,IntKind.signed,IntKind.bits] at h
 omega
theorem QiY {a:Int} (h:inK .u8 a):0<=a/\a<256:=by
 unfold inK at h
 simp [Lit.wf,IntKind.min,IntKind.max,IntKind.signed,IntKind.bits] at h
 omega
theorem QeC {P:Program} {t:TypeId} {k:IntKind} (ht:P.underlying t=some (.int k)):Qfp P t (ic k) (inK k):=by
 intro H enc w base spare held fuel cs x h
 obtain ⟨n,h1,_,h2⟩:=DataW.trod_int ht h
 exact ⟨n,h2,h1⟩
theorem Qv4 {P:Program} {t el:TypeId} (ht:P.underlying t=some (.array 16 el)) (he:P.underlying el=some (.int .u32)) (hc:P.cellsOf el=1) (hct:P.cellsOf t=16):Qfp P t vc Qbw:=by
 intro H enc w base spare held fuel cs x h
 obtain ⟨xs,m,_,_,hl,hxl,hx⟩:=DataW.trod_array ht h
 rw [hct] at hl
 have each:∀ i,i<16->∃ a,inK .u32 a/\cs[i]?=some (.int .u32 a):=by
  intro i hi
  have h1:=hx i hi
  rw [hc,List.getElem?_eq_getElem (by omega)] at h1
  obtain ⟨a,ha,he⟩:=QeC he _ _ _ _ _ _ _ _ _ h1
  refine ⟨a,ha,?_⟩
  have h2:((cs.drop (i*1)).take 1)[0]?=some (.int .u32 a):=by rw [he];rfl
  simpa [List.getElem?_take,List.getElem?_drop] using h2
 have each':∀ i:Fin 16,∃ a,inK .u32 a/\cs[i.val]?=some (.int .u32 a):=fun i=>each i.val i.isLt
 obtain ⟨v,hv⟩:=Classical.axiomOfChoice each'
 refine ⟨v,fun i=>QkC (hv i).1,?_⟩
 apply List.ext_getElem?
 intro i
 by_cases hi:i<16
 ·rw [QjH _ _ hi,(hv ⟨i,hi⟩).2];simp [vat,hi]
 ·rw [List.getElem?_eq_none (by omega),List.getElem?_eq_none (by rw [Qrc];omega)]
theorem Qu3 {P:Program} {t:TypeId} {f1 f2:Field} (ht:P.underlying t=some (.struct #[f1,f2])) (o1:f1.offset=0) (o2:f2.offset=1) (u1:P.underlying f1.type=some (.int .u8)) (u2:P.underlying f2.type=some (.int .u32))
  (c1:P.cellsOf f1.type=1) (c2:P.cellsOf f2.type=1) (hct:P.cellsOf t=2):Qfp P t dc Qfk:=by
 intro H enc w base spare held fuel cs x h
 obtain ⟨xs,m,_,_,hl,hxl,hx⟩:=DataW.trod_struct ht h
 rw [hct] at hl
 have h1:=hx 0 f1 rfl
 have h2:=hx 1 f2 rfl
 have hx2:xs.length=2:=by simpa using hxl
 rw [List.getElem?_eq_getElem (by omega)] at h1 h2
 rw [o1,c1] at h1
 rw [o2,c2] at h2
 obtain ⟨a,ha,e1⟩:=QeC u1 _ _ _ _ _ _ _ _ _ h1
 obtain ⟨b,hb,e2⟩:=QeC u2 _ _ _ _ _ _ _ _ _ h2
 match cs,hl with
 | [x,y],_ =>
  simp [ic] at e1 e2
  exact ⟨⟨a,b⟩,⟨QiY ha,QkC hb⟩,by rw [e1,e2];rfl⟩
theorem QpF {P:Program} {t:TypeId} {w:World} {r:Reach} {base:Nat} {v:Value} (hs:(∃ fs,P.underlying t=some (.struct fs))∨∃ n e,P.underlying t=some (.array n e)) (h:Value.okWide P w r base t v):∃ cs:Array Value,v = .agg cs:=by
 unfold Value.okWide at h
 rcases hs with ⟨fs,hs⟩|⟨n,e,hs⟩<;>rw [hs] at h<;>exact ⟨_,h.choose_spec.1⟩
theorem Qm4 {P:Program} {t e k:TypeId} {α:Type} {en:α->List Value} {ok:α->Prop} (ht:P.underlying t=some (.slice e)) (hO:Qfp P e en ok) (hk:∀ x,(en x).length=k) (hc:P.cellsOf e=k) {H:Type} {enc:TypeId × Value->H} {w:World} {r:Reach} {b0 base:Nat} {spare:Nat->Bool} {held:Bool} {v:Value} {d:DataW H} {ps:List MemPlace}
  (hv:Value.okWide P w r b0 t v) (h:DataW.Trod enc P w base spare held t v d ps):∃ a c,∃ l:List α,v = .slice a l.length c/\(∀ x∈l,ok x)/\Rd w (.slice a l.length c) k (l.map en):=by
 have hv0:=hv
 obtain ⟨a,len,cap,rfl⟩:=okWide_slice ht hv
 obtain ⟨fuel,h⟩:=h
 have h':DataW.trod enc P w base spare held fuel t [.slice a len cap]=some (d,ps):=h
 rcases Go.Deep.open_slice ht h' with ⟨hcs,_⟩|⟨ad,len',cap',m,n,D,Pl,hcs,hb,hl,hm,hmm,hx,hall⟩
 ·simp only [List.cons.injEq,Value.slice.injEq,and_true] at hcs
  obtain ⟨rfl,rfl,rfl⟩:=hcs
  exact ⟨none,0,[],rfl,by simp,Rd.nil w k⟩
 ·simp only [List.cons.injEq,Value.slice.injEq,and_true] at hcs
  obtain ⟨rfl,rfl,rfl⟩:=hcs
  have hrm:len<=cap:=by
   have hv1:=hv0
   simp only [Value.okWide,ht,Cell.okWide,Cell.ok] at hv1
   exact hv1.1
  have hsp:ad.spot=none:=by
   simp only [Value.okWide,ht,Cell.okWide,Cell.ok] at hv0
   exact hv0.2.2.2.1
  have hle:len<=m:=by rw [hmm];split<;>omega
  have each:∀ i:Fin len,∃ x:α,ok x/\∀ j,j<k->w.cell? ((ad.add (i.val*k)).add j)=(en x)[j]?:=by
   intro i
   obtain ⟨cs',h1,h2⟩:=hall i.val (by omega)
   rw [hc] at h1
   obtain ⟨_,_,h3⟩:=World.cells?_some h1
   obtain ⟨x,hox,rfl⟩:=hO _ _ _ _ _ _ _ _ _ h2
   exact ⟨x,hox,h3⟩
  obtain ⟨f,hf⟩:=Classical.axiomOfChoice each
  refine ⟨some ad,cap,List.ofFn f,by rw [List.length_ofFn],fun x hx=>?_,?_⟩
  ·obtain ⟨i,rfl⟩:=List.mem_ofFn.1 hx;exact (hf i).1
  ·obtain ⟨b,o,sp⟩:=ad
   simp only at hsp
   subst hsp
   refine ⟨Qb3 hk _,by simp only [QQ6,List.length_ofFn];simp only [maxLen] at hm;omega,.inr ⟨b,o,cap,by rw [QQ6]⟩,fun i j l u hi hj=>?_,by rw [QQ6,List.length_ofFn];exact hrm⟩
   have hi':=Qav hi
   rw [QQ6,List.length_ofFn] at hi'
   have e1:l=en (f ⟨i,hi'⟩):=by
    rw [List.getElem?_map,List.getElem?_ofFn] at hi
    simp [hi'] at hi
    exact hi.symm
   subst e1
   have hjk:j<k:=by have:=Qav hj;rw [hk] at this;exact this
   have h4:=(hf ⟨i,hi'⟩).2 j hjk
   rw [QaR,QaR] at h4
   show w.cell? ⟨b,o+i*k+j,none⟩=some u
   rw [← hj];exact h4
end Go.Vx
namespace Go.Proofs
open Go Go.Vx Go.RowKit
open Tryz
namespace Tt
theorem HM:prog.follows .mixedOrders=true:=by kernel_rfl
theorem Qc7:T1 prog 23:=⟨sizeOf23,isAgg23⟩
theorem QcS:T1 prog 3:=⟨sizeOf3,isAgg3⟩
theorem Qbv:T1 prog 34:=⟨sizeOf34,isAgg34⟩
theorem QcG:T1 prog 5:=⟨sizeOf5,isAgg5⟩
theorem QbC:TA prog 36 16:=⟨sizeOf36,isAgg36⟩
theorem Ql4:TA prog 52 2:=⟨sizeOf52,isAgg52⟩
theorem Qbp:TA prog 54 23:=⟨sizeOf54,isAgg54⟩
theorem Qo1 (a b:Vec):EqF prog 2 36 (.agg (vc a).toArray) (.agg (vc b).toArray) (decide (a=b)):=QrS underlying36 type34 rfl runUnderlying34 ⟨sizeOf34,isAgg34⟩ a b
theorem Qtq:En prog 101:=call101
theorem QnO:En prog 104:=call104
theorem QtU:En prog 170:=call170
theorem Quc:En prog 179:=call179
theorem QuK:En prog 89:=call89
theorem QsF:En prog 92:=call92
theorem QuC:En prog 94:=call94
theorem QdO:FA prog 52 0 0:=fun b o w=>by simp [Instr.fieldAt,Instr.sureAddr,fieldPlace,QaR]
theorem Qds:FA prog 52 1 1:=fun b o w=>by simp [Instr.fieldAt,Instr.sureAddr,fieldPlace,QaR]
theorem Qcq:FA prog 54 0 0:=fun b o w=>by simp [Instr.fieldAt,Instr.sureAddr,fieldPlace,QaR]
theorem Qhc:FA prog 54 1 2:=fun b o w=>by simp [Instr.fieldAt,Instr.sureAddr,fieldPlace,QaR]
theorem Qkr:FA prog 54 2 3:=fun b o w=>by simp [Instr.fieldAt,Instr.sureAddr,fieldPlace,QaR]
theorem Qes:FA prog 54 3 4:=fun b o w=>by simp [Instr.fieldAt,Instr.sureAddr,fieldPlace,QaR]
theorem QcO:FA prog 54 4 5:=fun b o w=>by simp [Instr.fieldAt,Instr.sureAddr,fieldPlace,QaR]
theorem QgF:FA prog 54 5 6:=fun b o w=>by simp [Instr.fieldAt,Instr.sureAddr,fieldPlace,QaR]
theorem Qeo:FA prog 54 6 7:=fun b o w=>by simp [Instr.fieldAt,Instr.sureAddr,fieldPlace,QaR]
theorem QfT:Ud prog 3 (.int .i64):=runUnderlying3
theorem Qdx:Ud prog 34 (.int .u32):=runUnderlying34
theorem Qgx:Ud prog 36 (.array 16 34):=runUnderlying36
theorem Qfe:Ud prog 5 (.int .u8):=runUnderlying5
theorem Qa6:Ud prog 65 (.int .u64):=runUnderlying65
theorem Ql5:Zv prog 36 (.agg (vc vzero).toArray):=zeroValue36
theorem QvD:Zv prog 52 (.agg (dc (⟨0,0⟩:Dot)).toArray):=zeroValue52
end Tt
end Go.Proofs
namespace Go.Vx
open Go.RowKit
theorem QpC (a:Option Addr) (c k:Nat):sla a 0 c k=a:=by
 unfold sla
 split
 ·rfl
 cases a with
 | none=>rfl
 | some a =>
  cases a with
  | mk b o s=>cases s<;>simp [Addr.add]
section
variable {P:Program} {ty:TypeId} {e:Operand->Value} {w:World} {K:Value->World->Prop} {w0:World} {M:Nat->Prop} {L:List Res}
theorem Qq8 {t el:Nat} {x:Operand} {a:Option Addr} {n c:Nat} (ht:Ud P t (.slice el)) (hx:e x = .slice a n c) (h:K (.int .i64 c) w):opW P (.call { callee:=.builtin .cap,args:=#[x],argTypes:=#[t] }) ty e w K:=by
 refine QaO (w':=w) ?_ h
 rw [BigFrame.execOp_builtin]
 simp only [List.map_toArray,List.map_cons,List.map_nil,hx,Go.builtin,Builtin.cap_,Sem.run_bind,ht w,Result.andThen_ok,Sem.run_pure,List.getElem?_toArray,List.getElem?_cons_zero,goInt]
theorem QsE {a:Option Addr} {n c E k i:Nat} {ls:List (List Value)} (hi:i<=ls.length) (hnn:n=ls.length) {w:World} {S:Nat->Prop} (h:(row (.slice a n c) ls E k).holds w S):(row (.slice a i c) (ls.take i) E k).holds w S:=by
 subst hnn
 obtain ⟨⟨hl1,ho1⟩,hown,hSg⟩:=h
 have hk1:∀ m∈ls.take i,m.length=k:=fun m hm=>hl1 m (List.mem_of_mem_take hm)
 have hlen:(ls.take i).length=i:=by rw [List.length_take];omega
 refine ⟨⟨hk1,fun m hm=>ho1 m (List.mem_of_mem_take hm)⟩,?_,fun g hg=>hSg g (by cases a<;>simp_all [Value.ownBlock])⟩
 have hfl:(ls.take i).flatten=ls.flatten.take (i*k):=by
  have h1:ls.flatten=(ls.take i).flatten++(ls.drop i).flatten:=by rw [← List.flatten_append,List.take_append_drop]
  rw [h1,List.take_left' (by rw [Qga _ hk1,hlen])]
 rcases hown.2 with ⟨hv,hn0⟩|⟨g,cap,cur,hv,h0g,hg,hnc,hcm,hcs,htake⟩
 ·have h0:ls=[]:=List.eq_nil_of_length_eq_zero hn0
  subst h0
  simp only [List.length_nil,Nat.le_zero] at hi
  subst hi
  cases hv
  exact World.ownsRow_nil _ _ _ _
 cases hv
 refine ⟨by rw [Qga _ hk1],.inr ⟨g,_,cur,by rw [hlen],h0g,hg,by rw [hlen];omega,hcm,hcs,?_⟩⟩
 rw [hlen,hfl,← htake,List.take_take]
 congr 1
 exact (Nat.min_eq_left (Nat.mul_le_mul_right _ hi)).symm
theorem Qhh {z:List Value}:∀ n:Nat,Builtin.zeroCells z.toArray n=(List.replicate n z).flatten.toArray:=by
 intro n
 apply Array.ext'
 simp only [Builtin.zeroCells,Array.toList_map,Array.toList_range]
 rcases Nat.eq_zero_or_pos z.length with h0|h0
 ·have:z=[]:=List.eq_nil_of_length_eq_zero h0
  subst this
  simp
 apply List.ext_getElem?
 intro j
 have hlen:(List.replicate n z).flatten.length=n*z.length:=by simp [List.length_flatten]
 by_cases hj:j<n*z.length
 ·rw [List.getElem?_map,List.getElem?_range (by simpa using hj)]
  simp only [Option.map_some]
  have hi:j/z.length<n:=Nat.div_lt_of_lt_mul (by rw [Nat.mul_comm];exact hj)
  have hm:j%z.length<z.length:=Nat.mod_lt _ h0
  have:=Qkv (List.replicate n z) z.length (fun l hl=>by rw [List.eq_of_mem_replicate hl]) (j/z.length) (j%z.length) z z[j%z.length] (by simp [hi]) (by simp [hm])
  rw [Nat.mul_comm,Nat.div_add_mod] at this
  rw [this]
  simp [hm]
 rw [List.getElem?_eq_none (by simpa using hj),List.getElem?_eq_none (by rw [hlen];omega)]
end
end Go.Vx
namespace Go.Vx
open Go.RowKit
def Qhv (w:World) (v:Value):Prop:=∃ b n c cur T,v = .slice (some ⟨b,0,none⟩) n c/\w.heap[b]?=some (.cells cur T (0,0))
theorem Qhv.own {w0 w:World} {M:Nat->Prop} {L:List Res} {v:Value} (h:Qhv w0 v) (hs:Own w0 M w L) (hm:¬M (bkS v)):Qhv w v:=by
 obtain ⟨b,n,c,cur,T,rfl,hb⟩:=h
 refine ⟨b,n,c,cur,T,rfl,?_⟩
 rw [hs.old b (Array.getElem?_eq_some_iff.1 hb).1 hm]
 exact hb
section
variable {P:Program} {ty:TypeId} {e:Operand->Value} {w:World} {K:Value->World->Prop} {w0:World} {M:Nat->Prop} {L:List Res}
theorem Own.plain {n:Nat} {v:Value} {ls:List (List Value)} {E k:Nat} (hs:Own w0 M w L) (i:Nat) (hi:L[i]?=some (row v ls E k)) (h0:0<ls.length) (hn:n=ls.length):Qhv w v/\True:=by
 obtain ⟨S,⟨_,hown,hSg⟩,hlt,_⟩:=hs.get i hi
 rcases hown.2 with ⟨hv,hn0⟩|⟨g,cap,cur,hv,h0g,hg,_⟩
 ·omega
 exact ⟨⟨g,_,cap,cur,E,hv,hg⟩,trivial⟩
end
end Go.Vx
namespace Go.Vx
theorem Qhv.lt {w:World} {v:Value} (h:Qhv w v):bkS v<w.heap.size:=by
 obtain ⟨b,n,c,cur,T,rfl,hb⟩:=h
 exact (Array.getElem?_eq_some_iff.1 hb).1
end Go.Vx
namespace Go.Vx
open Go.RowKit
section
variable {P:Program} {ty:TypeId} {e:Operand->Value} {w:World} {K:Value->World->Prop} {w0:World} {M:Nat->Prop} {L:List Res}
theorem Qvt {t u d:TypeId} {x y:Operand} {a:Option Addr} {n c:Nat} (ht:P.underlying t=some (.slice d)) (hx:e x = .slice a n c) (hy:e y = .slice none 0 0) (h:K (.bool a.isNone) w):opW P (.binOp .eql t x y u) ty e w K:=by
 refine QaO (w':=w) ?_ h
 simp only [execOp,hx,hy,eqGuard_at_slice,Sem.run_bind,Sem.run_pure,Result.andThen_ok,binOp,run_equal_slice_nil w t d a n c ht]
end
theorem Rd.isN {α:Type} {enc:α->List Value} {l:List α} {w:World} {a:Option Addr} {n c k:Nat} (h:Rd w (.slice a n c) k (l.map enc)) (ha:a.isNone=true):l=[]:=by
 rcases h.shape with ⟨_,h2⟩|⟨b,o,c',h2⟩
 ·simpa using h2
 cases h2;cases ha
theorem Own.cutRow {w0 w:World} {M:Nat->Prop} {L:List Res} {α:Type} {enc:α->List Value} {a:Option Addr} {c E k:Nat} {l:List α} (h:Own w0 M w L) (j:Nat) (hj:L[j]?=some (row (.slice a l.length c) (l.map enc) E k)) (i:Nat) (hi:i<=l.length) :
  Own w0 M w (L.set j (row (.slice a i c) ((l.take i).map enc) E k)) :=
 h.conv j hj fun S hS=>by rw [List.map_take];exact QsE (by rw [QQ6];exact hi) (by rw [QQ6]) hS
end Go.Vx
namespace Go.Vx
section
variable {α:Type} [Inhabited α]
structure CmpO (cf:α->α->Int):Prop where
 irr:∀ x,¬cf x x<0
 tot:∀ x y,cf x y<0->¬cf y x<0
 tr:∀ x y z,¬cf y x<0->¬cf z y<0->¬cf z x<0
variable {cf:α->α->Int}
theorem Qgd {l m:List α} {i:Nat} (h:i<l.length):gd (l++m) i=gd l i:=by simp [gd,List.getElem?_append_left h]
theorem Qgf {l m:List α} {i:Nat} (h:l.length<=i):gd (l++m) i=gd m (i-l.length):=by simp [gd,List.getElem?_append_right h]
theorem QqU {l:List α} {x:α} (h:x∈l):∃ i,i<l.length/\gd l i=x:=by
 obtain ⟨i,hi,rfl⟩:=List.mem_iff_getElem.1 h
 exact ⟨i,hi,by simp [gd,hi]⟩
def Qb0 (l l2:List α) (a b:Nat):Prop:=∃ A X Z B,l=A++X++B/\l2=A++Z++B/\A.length=a/\a+X.length=b/\Z.Perm X
omit [Inhabited α] in
theorem Qb0.len {l l2:List α} {a b:Nat} (h:Qb0 l l2 a b):l2.length=l.length:=by
 obtain ⟨A,X,Z,B,rfl,rfl,_,_,hp⟩:=h
 simp [hp.length_eq]
omit [Inhabited α] in
theorem QuV (l:List α) {a b:Nat} (h:a<=b) (hb:b<=l.length):l=l.take a++(l.take b).drop a++l.drop b/\(l.take a).length=a/\a+((l.take b).drop a).length=b:=by
 refine ⟨?_,by rw [List.length_take];omega,by rw [List.length_drop,List.length_take];omega⟩
 have e:l.take a=(l.take b).take a:=by rw [List.take_take];congr 1;omega
 rw [e,List.take_append_drop,List.take_append_drop]
omit [Inhabited α] in
theorem Qb0.refl (l:List α) {a b:Nat} (h:a<=b) (hb:b<=l.length):Qb0 l l a b:=by
 obtain ⟨h1,h2,h3⟩:=QuV l h hb
 exact ⟨_,_,_,_,h1,h1,h2,h3,List.Perm.refl _⟩
omit [Inhabited α] in
theorem QoX {A X B A2 X2 B2:List α} (h:A++X++B=A2++X2++B2) (h1:A.length=A2.length) (h2:X.length=X2.length):A=A2/\X=X2/\B=B2:=by
 rw [List.append_assoc,List.append_assoc] at h
 obtain ⟨e1,e2⟩:=List.append_inj h h1
 obtain ⟨e3,e4⟩:=List.append_inj e2 h2
 exact ⟨e1,e3,e4⟩
omit [Inhabited α] in
theorem Qb0.trans {l m n:List α} {a b:Nat} (h:Qb0 l m a b) (g:Qb0 m n a b):Qb0 l n a b:=by
 obtain ⟨A,X,Z,B,rfl,rfl,ha,hb,hp⟩:=h
 obtain ⟨A2,X2,Z2,B2,e,rfl,ha2,hb2,hp2⟩:=g
 have hz:=hp.length_eq
 obtain ⟨rfl,rfl,rfl⟩:=QoX e (by omega) (by omega)
 exact ⟨_,_,_,_,rfl,rfl,ha,hb,hp2.trans hp⟩
omit [Inhabited α] in
theorem Qb0.wide {l m:List α} {a b a2 b2:Nat} (h:Qb0 l m a b) (h1:a2<=a) (h2:b<=b2) (h3:b2<=l.length):Qb0 l m a2 b2:=by
 obtain ⟨A,X,Z,B,rfl,rfl,rfl,rfl,hp⟩:=h
 have hz:=hp.length_eq
 simp only [QQ7] at h3
 refine ⟨A.take a2,A.drop a2++X++B.take (b2-(A.length+X.length)),A.drop a2++Z++B.take (b2-(A.length+X.length)),B.drop (b2-(A.length+X.length)),?_,?_,by rw [List.length_take];omega,by simp only [QQ7,List.length_drop,List.length_take];omega,(hp.append_left _).append_right _⟩
 ·have e1:=List.take_append_drop a2 A
  have e2:=List.take_append_drop (b2-(A.length+X.length)) B
  calc A++X++B=(A.take a2++A.drop a2)++X++(B.take (b2-(A.length+X.length))++B.drop (b2-(A.length+X.length))):=by rw [e1,e2]
   _=_:=by simp only [List.append_assoc]
 have e1:=List.take_append_drop a2 A
 have e2:=List.take_append_drop (b2-(A.length+X.length)) B
 calc A++Z++B=(A.take a2++A.drop a2)++Z++(B.take (b2-(A.length+X.length))++B.drop (b2-(A.length+X.length))):=by rw [e1,e2]
  _=_:=by simp only [List.append_assoc]
theorem Qb0.out {l m:List α} {a b i:Nat} (h:Qb0 l m a b) (hi:i<a∨b<=i):gd m i=gd l i:=by
 obtain ⟨A,X,Z,B,rfl,rfl,rfl,rfl,hp⟩:=h
 have hz:=hp.length_eq
 rcases hi with hi|hi
 ·rw [List.append_assoc,List.append_assoc,Qgd hi,Qgd hi]
 rw [Qgf (by simp only [QQ7];omega),Qgf (by simp only [QQ7];omega)]
 simp only [QQ7];congr 1;omega
def QfG (cf:α->α->Int) (l:List α) (a b:Nat):Prop:=∀ i j,a<=i->i<j->j<b->¬cf (gd l j) (gd l i)<0
theorem QfG.out {l m:List α} {a b c d:Nat} (h:QfG cf l a b) (g:Qb0 l m c d) (hd:b<=c∨d<=a):QfG cf m a b:=by
 intro i j hi hij hj
 rw [g.out (by omega),g.out (by omega)]
 exact h i j hi hij hj
theorem QfG.sub {l:List α} {a b c d:Nat} (h:QfG cf l a b) (h1:a<=c) (h2:d<=b):QfG cf l c d:=fun i j hi hij hj=>h i j (by omega) hij (by omega)
theorem QfG.small {l:List α} {a b:Nat} (h:b<=a+1):QfG cf l a b:=fun i j hi hij hj=>by omega
theorem Qb0.from {l m:List α} {a b i:Nat} (h:Qb0 l m a b) (h1:a<=i) (h2:i<b):∃ k,a<=k/\k<b/\gd m i=gd l k:=by
 obtain ⟨A,X,Z,B,rfl,rfl,rfl,rfl,hp⟩:=h
 have hz:=hp.length_eq
 have e1:gd (A++Z++B) i=gd Z (i-A.length):=by rw [List.append_assoc,Qgf (by omega),Qgd (by omega)]
 have hm:gd Z (i-A.length)∈Z:=Qcw (by omega)
 obtain ⟨k,hk,e⟩:=QqU (hp.mem_iff.1 hm)
 refine ⟨A.length+k,by omega,by omega,?_⟩
 rw [e1,← e,List.append_assoc,Qgf (by omega),Qgd (by omega)]
 congr 1;omega
end
end Go.Vx
namespace Go.Vx
section
variable {α:Type} [Inhabited α] {cf:α->α->Int}
def QqS (l l2:List α) (a m b:Nat):Prop:=∃ A X Y B,l=A++X++Y++B/\l2=A++Y++X++B/\A.length=a/\a+X.length=m/\m+Y.length=b
omit [Inhabited α] in
theorem QqS.refl {l:List α} {a m b:Nat} (h1:a<=m) (h2:m<=b) (h3:b<=l.length) (h:a=m∨m=b):QqS l l a m b:=by
 obtain ⟨e1,e2,e3⟩:=QuV l h1 (Nat.le_trans h2 h3)
 obtain ⟨f1,f2,f3⟩:=QuV l h2 h3
 obtain ⟨g1,g2,g3⟩:=QuV l (Nat.le_trans h1 h2) h3
 rcases h with h|h
 ·subst h
  exact ⟨_,[],_,_,by simpa using g1,by simpa using g1,g2,by simp,g3⟩
 subst h
 exact ⟨_,_,[],_,by simpa using e1,by simpa using e1,e2,e3,by simp⟩
end
end Go.Vx
namespace Go.Vx
section
variable {α:Type} [Inhabited α] {f:α->Bool} {l:List α}
def Qp4 (f:α->Bool) (l:List α):Nat:=(l.takeWhile f).length
theorem Qp7 {i:Nat} (h:i<Qp4 f l):f (gd l i)=true:=by
 unfold Qp4 at h
 induction l generalizing i with
 | nil=>simp at h
 | cons a l ih =>
  rw [List.takeWhile_cons] at h
  split at h
  ·rename_i ha
   cases i with
   | zero=>simpa [gd] using ha
   | succ i=>have:=ih (i:=i) (by simpa using h);simpa [gd] using this
  simp at h
theorem Qsv (h:Qp4 f l<l.length):f (gd l (Qp4 f l))=false:=by
 unfold Qp4 at h ⊢
 induction l with
 | nil=>simp at h
 | cons a l ih =>
  rw [List.takeWhile_cons] at h ⊢
  split at h
  ·rename_i ha
   rw [if_pos ha]
   have:=ih (by simpa using h)
   simpa [gd] using this
  rename_i ha
  rw [if_neg ha]
  simpa [gd] using ha
theorem Qsi {h:Nat} (hf:f (gd l h)=false):Qp4 f l<=h:=by
 rcases Nat.lt_or_ge h (Qp4 f l) with g|g
 ·rw [Qp7 g] at hf;cases hf
 exact g
end
section
variable {α:Type} [Inhabited α] {p:α->Bool} {l:List α}
theorem QdY {k:Nat} (hk:k<l.length):l.take (k+1)=l.take k++[gd l k]:=by
 rw [List.take_add_one]
 simp [gd,hk]
def QoL (p:α->Bool) (l:List α):Int:=if l.any p then ((Qp4 (fun x=>!p x) l:Nat):Int) else -1
theorem Qrx {k:Nat} (hk:k<l.length) (hno:∀ j,j<k->p (gd l j)=false) (h:p (gd l k)=true):QoL p l=(k:Int):=by
 unfold QoL
 have h1:l.any p=true:=List.any_eq_true.2 ⟨gd l k,Qcw hk,h⟩
 rw [if_pos h1]
 have h2:Qp4 (fun x=>!p x) l<=k:=Qsi (by rw [h];rfl)
 rcases Nat.lt_or_eq_of_le h2 with g|g
 ·have h3:=Qsv (f:=fun x=>!p x) (l:=l) (by omega)
  rw [hno _ g] at h3;cases h3
 rw [g]
theorem QtM (hno:∀ j,j<l.length->p (gd l j)=false):QoL p l = -1:=by
 unfold QoL
 have h1:l.any p=false:=by
  rw [List.any_eq_false]
  intro x hx
  obtain ⟨i,hi,rfl⟩:=QqU hx
  rw [hno i hi];simp
 rw [h1];rfl
end
end Go.Vx
namespace Go.Proofs
open Go Go.Vx Go.RowKit
open Tryz
namespace Tt
theorem QvA:prog.underlying 3=some (.int .i64):=underlying3
end Tt
end Go.Proofs
namespace Go.Vx
def QoT (s:Sta):Prop:=Qbw s.known/\(∀ e∈s.ents,QuD e)/\∀ x∈s.ticks,Qns x
end Go.Vx
namespace Go.Proofs
open Go Go.Vx Go.RowKit
open Tryz
namespace Tt
theorem QdR:T1 prog 65:=⟨sizeOf65,isAgg65⟩
theorem Qu5 (a b:Dot):EqF prog 2 52 (.agg (dc a).toArray) (.agg (dc b).toArray) (decide (a=b)):=by
 rw [← QmP]
 exact Qd3 underlying52 stoodInHeld52 (.cons (by decide) (QaQ ⟨sizeOf5,isAgg5⟩ rfl) (QaQ ⟨sizeOf5,isAgg5⟩ rfl) (Qcp runUnderlying5) (.cons (by decide) (QaQ ⟨sizeOf34,isAgg34⟩ rfl) (QaQ ⟨sizeOf34,isAgg34⟩ rfl) (Qcp runUnderlying34) .nil))
theorem Qkb:Bt prog 54 [(0,2),(2,1),(3,1),(4,1),(5,1),(6,1),(7,16)] (oc (⟨(⟨0,0⟩:Dot),0,0,0,0,0,vzero⟩:Opn)):=Qcf type54 rfl rfl underlying54 (by kernel_rfl)
theorem QjS:Zv prog 54 (.agg (oc (⟨(⟨0,0⟩:Dot),0,0,0,0,0,vzero⟩:Opn)).toArray):=zeroValue54
end Tt
end Go.Proofs
namespace Go.Vx
def cv (e:Cen):Value:=.agg (cec e).toArray
def QsW (a e:Cen):Cen:=if e.kind=1 then a else if Qvd a e=true then e else a
end Go.Vx
namespace Go.Vx
theorem Own.sel {w0 w:World} {M:Nat->Prop} {L:List Res} (h:Own w0 M w L) (is:List Nat) {L':List Res} (hn:is.Nodup) (he:(is.map fun i=>L[i]?)=L'.map some):Own w0 M w L':=by
 obtain ⟨a,b,c,d,e,S,f,g,i,j⟩:=h
 have key:∀ {k:Nat} {R:Res},L'[k]?=some R->∃ n,is[k]?=some n/\L[n]?=some R:=fun {k R} hk=>by
  have h1:(is.map fun i=>L[i]?)[k]?=(L'.map some)[k]?:=by rw [he]
  rw [List.getElem?_map,List.getElem?_map,hk] at h1
  cases hi:is[k]? with
  | none=>rw [hi] at h1;cases h1
  | some n=>rw [hi] at h1;exact ⟨n,rfl,by simpa using h1⟩
 refine ⟨a,b,c,d,e,fun k b=>∃ n,is[k]?=some n/\S n b,fun k R hk=>?_,?_,?_,?_⟩
 ·obtain ⟨n,h1,h2⟩:=key hk
  have e1:(fun b=>∃ m,is[k]?=some m/\S m b)=S n:=by
   funext b;apply propext
   constructor
   ·rintro ⟨m,h3,h4⟩;rw [h1] at h3;cases h3;exact h4
   exact fun h=>⟨n,h1,h⟩
  show R.holds w (fun b=>∃ m,is[k]?=some m/\S m b)
  rw [e1];exact f n R h2
 ·rintro k b ⟨n,_,h⟩;exact g n b h
 ·rintro k k' b ⟨n,h1,h2⟩ ⟨m,h3,h4⟩
  have hnm:=i n m b h2 h4
  subst hnm
  have hk:k<is.length:=by rcases Nat.lt_or_ge k is.length with q|q;exact q;rw [List.getElem?_eq_none q] at h1;cases h1
  have hk':k'<is.length:=by rcases Nat.lt_or_ge k' is.length with q|q;exact q;rw [List.getElem?_eq_none q] at h3;cases h3
  rw [List.getElem?_eq_getElem hk] at h1
  rw [List.getElem?_eq_getElem hk'] at h3
  exact (List.getElem_inj hn).1 ((Option.some.inj h1).trans (Option.some.inj h3).symm)
 rintro k b ⟨n,_,h⟩ hb;exact j n b h hb
section
variable {α:Type} [Inhabited α] {l m:List α}
theorem Qpb {k:Nat} (h:∀ j:Nat,j<k->gd l j=gd m j) (hk:gd l k=gd m k):∀ j:Nat,j<k+1->gd l j=gd m j:=by
 intro j hj
 by_cases e:j=k
 ·subst e;exact hk
 exact h j (by omega)
theorem QoE (hn:l.length=m.length) (h:∀ j:Nat,j<l.length->gd l j=gd m j):l=m:=by
 apply List.ext_getElem hn
 intro j h1 h2
 have:=h j h1
 simpa [gd,h1,h2] using this
end
theorem Seq.take {l:List Opn} (h:Seq l):∀ k,Seq (l.take k):=by
 induction h with
 | nil=>intro k;rw [List.take_nil];exact .nil
 | @snoc l o h1 h2 h3 h4 h5 h6 ih =>
  intro k
  rcases Nat.lt_or_ge l.length k with q|q
  ·rw [List.take_of_length_le (by rw [QQ7,List.length_singleton];omega)];exact .snoc h1 h2 h3 h4 h5 h6
  rw [List.take_append_of_le_length q];exact ih k
theorem Qne {c t:Int} (h:Qns ⟨c,t⟩):∀ {l:List Lst},(∀ x∈l,Qns x)->∀ x∈QiG c t l,Qns x
 | [],_,x,hx=>by simp [QiG] at hx;subst hx;exact h
 | y :: l,hl,x,hx=>by
  have hy:=hl y (by simp)
  have hl':∀ x∈l,Qns x:=fun z hz=>hl z (by simp [hz])
  unfold QiG at hx
  split at hx
  ·rcases List.mem_cons.1 hx with g|g
   ·subst g
    obtain ⟨h1,h2,h3⟩:=h
    obtain ⟨k1,k2,k3⟩:=hy
    dsimp only at h1 h2 h3
    exact ⟨h1,by show 0<=max y.tick t;omega,by show max y.tick t<_;omega⟩
   exact hl' x g
  split at hx
  ·rcases List.mem_cons.1 hx with g|g
   ·subst g;exact h
   exact hl x g
  rcases List.mem_cons.1 hx with g|g
  ·subst g;exact hy
  exact Qne h hl' x g
theorem QsG {o:Opn} (h:QbK o):QuD (Qr7 o):=by
 obtain ⟨h1,h2,h3,h4,h5,h6,h7⟩:=h
 have:=Qsp h7
 exact ⟨h3,h4,h5,h2,h1,by show 0<=QoM o;unfold QoM;omega,by show QoM o<_;unfold QoM;omega⟩
theorem Qm6 {s:Sta} {o:Opn} (hs:QoT s) (ho:QbK o):QoT (QlF s o):=by
 obtain ⟨h1,h2,h3⟩:=hs
 refine ⟨?_,?_,?_⟩
 ·exact QrW h1 _ ho.1.2.1 ho.1.2.2
 ·intro e he
  unfold QlF at he
  dsimp only at he
  split at he
  ·rcases QfV.1 he with g|g
   ·subst g;exact QsG ho
   exact h2 e (List.mem_filter.1 g).1
  exact h2 e (List.mem_filter.1 he).1
 intro x hx
 exact Qne ⟨ho.2.2.1,ho.2.2.2.2.2.1⟩ h3 x hx
theorem Qqg:QoT szero:=⟨QeZ,(fun _ h=>by cases h),(fun _ h=>by cases h)⟩
theorem Seq.ok {l:List Opn} (h:Seq l):QoT (Qeg l):=by
 induction h with
 | nil=>exact Qqg
 | snoc h1 h2 h3 h4 h5 h6 ih=>rw [QeO];exact Qm6 ih h2
end Go.Vx
namespace Go.Proofs
open Go Go.Vx Go.RowKit
open Tryz
namespace Tt
theorem Qc9:Ud prog 22 (.slice 54):=runUnderlying22
end Tt
end Go.Proofs
namespace Go.Vx
abbrev Bs:=List Int
def QaZ (l:Bs):Prop:=∀ c∈l,0<=c/\c<256
theorem QaZ.tail {c:Int} {l:Bs} (h:QaZ (c :: l)):QaZ l:=fun x hx=>h x (List.mem_cons_of_mem _ hx)
theorem QaZ.app {a b:Bs} (h:QaZ a) (h':QaZ b):QaZ (a++b):=fun x hx=>(List.mem_append.1 hx).elim (h x) (h' x)
theorem QaZ.take {a:Bs} (h:QaZ a) (n:Nat):QaZ (a.take n):=fun x hx=>h x (List.mem_of_mem_take hx)
theorem QaZ.drop {a:Bs} (h:QaZ a) (n:Nat):QaZ (a.drop n):=fun x hx=>h x (List.mem_of_mem_drop hx)
def Qan (n:Nat):Bs:=if n<128 then [(n:Int)] else ((n%128+128:Nat):Int) :: Qan (n/128)
termination_by n
decreasing_by omega
theorem Qb7 {n:Nat} (h:n<128):Qan n=[(n:Int)]:=by rw [Qan,if_pos h]
theorem QcL {n:Nat} (h:128<=n):Qan n=((n%128+128:Nat):Int) :: Qan (n/128):=by rw [Qan,if_neg (by omega)]
theorem Qc6 (n:Nat):QaZ (Qan n):=by
 induction n using Nat.strongRecOn with
 | ind n ih =>
  by_cases h:n<128
  ·rw [Qb7 h];intro c hc;simp at hc;omega
  rw [QcL (by omega)]
  intro c hc
  rcases List.mem_cons.1 hc with rfl|hc
  ·omega
  exact ih (n/128) (by omega) c hc
theorem Qm5 {n:Nat} {p:Bs} (h:Qan n=p++[0]):n=0/\p=[]:=by
 induction n using Nat.strongRecOn generalizing p with
 | ind n ih =>
  by_cases hn:n<128
  ·rw [Qb7 hn] at h
   cases p with
   | nil=>simp at h;exact ⟨h,rfl⟩
   | cons c p=>simp at h
  rw [QcL (by omega)] at h
  cases p with
  | nil=>simp at h;omega
  | cons c p =>
   simp at h
   have:=ih (n/128) (by omega) h.2
   omega
def Qai:Nat->Nat->Bs->Nat × Nat × Nat
 | _,_,[]=>(0,0,4)
 | i,n,c :: l=>if 9<i∨(i=9/\1<c) then (0,0,5) else if 128<=c then Qai (i+1) (n+c.toNat%128*128 ^ i) l else if c=0/\0<i then (0,0,5) else (n+c.toNat%128*128 ^ i,i+1,0)
def Qd9 (b:Bs):Nat->Nat->Bs->Nat × Nat × Nat
 | i,_,[]=>if i<10 then (0,0,4) else (0,0,5)
 | i,n,c :: l=>if 10<=i∨(i=9/\1<c) then (0,0,5) else if c<128 then (if Qan (n+c.toNat%128*128 ^ i)=b.take (i+1) then (n+c.toNat%128*128 ^ i,i+1,0) else (0,0,5)) else Qd9 b (i+1) (n+c.toNat%128*128 ^ i) l
def QlD:Bs->Nat
 | []=>0
 | c :: l=>c.toNat%128+128*QlD l
theorem QkF (p:Bs) (c:Int):QlD (p++[c])=QlD p+c.toNat%128*128 ^ p.length:=by
 induction p with
 | nil=>simp [QlD]
 | cons d p ih =>
  simp only [List.cons_append,QlD,ih,List.length_cons,Nat.pow_succ,Nat.mul_add]
  have:128*(c.toNat%128*128 ^ p.length)=c.toNat%128*(128 ^ p.length*128):=by
   rw [Nat.mul_comm,Nat.mul_assoc]
  omega
theorem Qly:∀ {p:Bs} {c:Int},(∀ x∈p,128<=x/\x<256)->0<=c->c<128->(c≠0∨p=[])->Qan (QlD (p++[c]))=p++[c]
 | [],c,_,h0,h1,_=>by
  simp only [List.nil_append,QlD]
  rw [Qb7 (by omega)]
  congr 1;omega
 | d :: p,c,hp,h0,h1,hc=>by
  have hd:=hp d List.mem_cons_self
  have hc:c≠0:=by
   rcases hc with h|h
   ·exact h
   cases h
  have ih:=Qly (p:=p) (fun x hx=>hp x (List.mem_cons_of_mem _ hx)) h0 h1 (.inl hc)
  have hv:QlD (d :: (p++[c]))=d.toNat%128+128*QlD (p++[c]):=rfl
  have hpos:0<QlD (p++[c]):=by
   rw [QkF]
   have:0<c.toNat%128*128 ^ p.length:=Nat.mul_pos (by omega) (Nat.pow_pos (by omega))
   omega
  rw [List.cons_append,hv,QcL (by omega)]
  rw [show (d.toNat%128+128*QlD (p++[c]))/128=QlD (p++[c]) by omega,ih]
  congr 1;omega
theorem QnJ (b:Bs):∀ (l p:Bs),b=p++l->QaZ b->(∀ x∈p,128<=x)->p.length<=9->Qd9 b p.length (QlD p) l=Qai p.length (QlD p) l
 | [],p,hb,_,hp,hl=>by
  simp only [Qd9,Qai]
  rw [if_pos (by omega)]
 | c :: l,p,hb,ok,hp,hl=>by
  have hc:0<=c/\c<256:=ok c (by rw [hb];simp)
  have hpo:∀ x∈p,128<=x/\x<256:=fun x hx=>⟨hp x hx,(ok x (by rw [hb];simp [hx])).2⟩
  simp only [Qd9,Qai]
  by_cases h9:p.length=9/\1<c
  ·rw [if_pos (.inr h9),if_pos (.inr h9)]
  have hA:¬(10<=p.length∨(p.length=9/\1<c)):=by omega
  have hB:¬(9<p.length∨(p.length=9/\1<c)):=by omega
  rw [if_neg hA,if_neg hB,← QkF]
  by_cases h128:128<=c
  ·have hC:¬c<128:=by omega
   rw [if_neg hC,if_pos h128]
   have:=QnJ b l (p++[c]) (by rw [hb];simp) ok (fun x hx=>by
     rcases List.mem_append.1 hx with h|h
     ·exact hp x h
     ·simp at h;omega) (by simp;omega)
   simpa using this
  have hC:c<128:=by omega
  rw [if_pos hC,if_neg h128]
  have ht:b.take (p.length+1)=p++[c]:=by
   rw [hb,show p++c :: l=(p++[c])++l by simp,List.take_left' (by simp)]
  rw [ht]
  by_cases h0:c=0/\0<p.length
  ·rw [if_pos h0,if_neg]
   intro e
   rw [h0.1] at e
   have:=(Qm5 e).2
   rw [this] at h0
   simp at h0
  rw [if_neg h0,if_pos]
  refine Qly hpo hc.1 (by omega) ?_
  by_cases hc0:c=0
  ·right;exact List.length_eq_zero_iff.1 (by omega)
  exact .inl hc0
theorem QdW {b:Bs} (ok:QaZ b):Qd9 b 0 0 b=Qai 0 0 b:=QnJ b b [] rfl ok (by simp) (by simp)
theorem Qoe (l:Bs):∀ (n i m:Nat),(i=0∨n≠0)->n*128 ^ i<18446744073709551616->Qai i m (Qan n++l)=(m+n*128 ^ i,i+(Qan n).length,0):=by
 intro n
 induction n using Nat.strongRecOn with
 | ind n ih =>
  intro i m hi hn
  have h9:i<=9:=by
   rcases hi with h|h
   ·omega
   rcases Nat.lt_or_ge 9 i with h'|h'
   ·exfalso
    have h1:128 ^ 10<=128 ^ i:=Nat.pow_le_pow_right (by omega) h'
    have h2:128 ^ i<=n*128 ^ i:=Nat.le_mul_of_pos_left _ (by omega)
    have h3:(128:Nat) ^ 10=1180591620717411303424:=by decide
    omega
   exact h'
  by_cases h:n<128
  ·rw [Qb7 h]
   simp only [List.cons_append,List.nil_append,Qai,List.length_cons,List.length_nil]
   have h91:¬(i=9/\(1:Int)<n):=by
    rintro ⟨rfl,h1⟩
    have h3:(128:Nat) ^ 9=9223372036854775808:=by decide
    rw [h3] at hn
    omega
   rw [if_neg (by omega),if_neg (by omega),if_neg (by omega)]
   have:(n:Int).toNat%128=n:=by omega
   rw [this]
  rw [QcL (by omega)]
  simp only [List.cons_append,Qai,List.length_cons]
  have h91:i≠9:=by
   rintro rfl
   have h3:(128:Nat) ^ 9=9223372036854775808:=by decide
   rw [h3] at hn
   omega
  have hd:n=n%128+128*(n/128):=by omega
  have hpw:n*128 ^ i=n%128*128 ^ i+(n/128)*128 ^ (i+1):=by
   conv=>lhs;rw [hd]
   rw [Nat.add_mul,Nat.pow_succ,Nat.mul_comm 128 (n/128),Nat.mul_assoc,Nat.mul_comm 128 (128 ^ i)]
  rw [if_neg (by omega),if_pos (by omega),ih (n/128) (by omega) (i+1) _ (.inr (by omega)) (by omega)]
  have:((n%128+128:Nat):Int).toNat%128=n%128:=by omega
  rw [this]
  refine Prod.ext ?_ (Prod.ext ?_ rfl)
  ·show m+n%128*128 ^ i+n/128*128 ^ (i+1)=m+n*128 ^ i
   omega
  show i+1+(Qan (n/128)).length=i+((Qan (n/128)).length+1)
  omega
theorem QhI:∀ (l:Bs) (i m n k:Nat),QaZ l->Qai i m l=(n,k,0)->∃ d,l=Qan d++l.drop (k-i)/\n=m+d*128 ^ i/\k=i+(Qan d).length/\(0<i->d≠0)/\d*128 ^ i<18446744073709551616
 | [],i,m,n,k,_,h=>by simp [Qai] at h
 | c :: l,i,m,n,k,ok,h=>by
  have hc:0<=c/\c<256:=ok c List.mem_cons_self
  simp only [Qai] at h
  split at h
  ·cases h
  rename_i h9
  have hpw:(128:Nat) ^ i<=128 ^ 9:=Nat.pow_le_pow_right (by omega) (by omega)
  have h3:(128:Nat) ^ 9=9223372036854775808:=by decide
  split at h
  ·rename_i h128
   obtain ⟨d,h1,h2,h4,h5,h6⟩:=QhI l (i+1) _ n k ok.tail h
   have hd:=h5 (by omega)
   have hdd:(c.toNat%128+128*d)*128 ^ i=c.toNat%128*128 ^ i+d*128 ^ (i+1):=by
    rw [Nat.add_mul,Nat.pow_succ,Nat.mul_comm 128 d,Nat.mul_assoc,Nat.mul_comm 128 (128 ^ i)]
   refine ⟨c.toNat%128+128*d,?_,by omega,?_,fun _=>by omega,?_⟩
   ·rw [QcL (by omega),show (c.toNat%128+128*d)/128=d by omega,show k-i=(k-(i+1))+1 by omega,List.drop_succ_cons,List.cons_append,← h1]
    congr 1;omega
   ·rw [QcL (by omega),show (c.toNat%128+128*d)/128=d by omega,List.length_cons];omega
   have h7:128<=c.toNat:=by omega
   have hdpos:1<=d:=by omega
   have h8:i<=8:=by omega
   have h10:128 ^ (i+1)<=d*128 ^ (i+1):=Nat.le_mul_of_pos_left _ hdpos
   have h11:c.toNat%128*128 ^ i<128 ^ (i+1):=by
    rw [Nat.pow_succ,Nat.mul_comm]
    exact Nat.mul_lt_mul_of_pos_left (by omega) (Nat.pow_pos (by omega))
   have h12:d*128 ^ (i+1)+128 ^ (i+1)<=18446744073709551616:=by
    have hdvd:(128:Nat) ^ (i+1)∣18446744073709551616:=by
     have:(18446744073709551616:Nat)=2*128 ^ 9:=by decide
     rw [this]
     exact Nat.dvd_trans (Nat.pow_dvd_pow 128 (by omega)) (Nat.dvd_mul_left _ _)
    obtain ⟨q,hq⟩:=hdvd
    rw [hq,Nat.mul_comm (128 ^ (i+1)) q] at h6 ⊢
    have:d<q:=Nat.lt_of_mul_lt_mul_right h6
    calc d*128 ^ (i+1)+128 ^ (i+1)=(d+1)*128 ^ (i+1):=by rw [Nat.add_mul,Nat.one_mul]
     _<=q*128 ^ (i+1):=Nat.mul_le_mul_right _ this
   omega
  rename_i h128
  split at h
  ·cases h
  rename_i h0
  cases h
  refine ⟨c.toNat%128,?_,rfl,?_,fun _=>by omega,?_⟩
  ·rw [Qb7 (by omega),show i+1-i=1 by omega]
   simp only [List.drop_succ_cons,List.drop_zero,List.cons_append,List.nil_append]
   congr 1;omega
  ·rw [Qb7 (by omega)];rfl
  by_cases hi:i=9
  ·have:¬1<c:=fun h=>h9 (.inr ⟨hi,h⟩)
   have:c.toNat%128<=1:=by omega
   calc c.toNat%128*128 ^ i<=1*128 ^ i:=Nat.mul_le_mul_right _ this
    _<_:=by omega
  have h1:(128:Nat) ^ i<=128 ^ 8:=Nat.pow_le_pow_right (by omega) (by omega)
  have h2:(128:Nat) ^ 8=72057594037927936:=by decide
  calc c.toNat%128*128 ^ i<=127*128 ^ i:=Nat.mul_le_mul_right _ (by omega)
   _<_:=by omega
theorem QgW {l:Bs} {n k:Nat} (ok:QaZ l) (h:Qai 0 0 l=(n,k,0)):l=Qan n++l.drop k/\k=(Qan n).length/\n<18446744073709551616:=by
 obtain ⟨d,h1,h2,h3,_,h5⟩:=QhI l 0 0 n k ok h
 simp at h1 h2 h3 h5
 subst h2
 exact ⟨h1,h3,h5⟩
theorem QkX {n:Nat} (hn:n<18446744073709551616) (l:Bs):Qai 0 0 (Qan n++l)=(n,(Qan n).length,0):=by
 rw [Qoe l n 0 0 (.inl rfl) (by simpa using hn)];simp
structure Rdr where
 e:Nat
 l:Bs
def Qaj (r:Rdr):Nat × Nat × Rdr:=if r.e≠0 then (0,r.e,r) else if (Qai 0 0 r.l).2.2≠0 then (0,(Qai 0 0 r.l).2.2,⟨(Qai 0 0 r.l).2.2,r.l⟩) else ((Qai 0 0 r.l).1,0,⟨0,r.l.drop (Qai 0 0 r.l).2.1⟩)
def QaT (r:Rdr):Bs × Nat × Rdr:=if (Qaj r).2.1≠0 then ([],(Qaj r).2.1,(Qaj r).2.2) else if (Qaj r).2.2.l.length<(Qaj r).1 then ([],4,⟨4,(Qaj r).2.2.l⟩) else ((Qaj r).2.2.l.take (Qaj r).1,0,⟨0,(Qaj r).2.2.l.drop (Qaj r).1⟩)
def QaU (r:Rdr):Bool:=decide (r.e=0)&&decide (r.l.length=0)
theorem QcW {n:Nat} (hn:n<18446744073709551616) (l:Bs):Qaj ⟨0,Qan n++l⟩=(n,0,⟨0,l⟩):=by
 unfold Qaj
 simp only [QkX hn,ne_eq,not_true_eq_false,if_false]
 rw [List.drop_left' rfl]
def QaM (b:Bs):Bs:=Qan b.length++b
theorem Qf7 {b:Bs} (hn:b.length<18446744073709551616) (l:Bs):QaT ⟨0,QaM b++l⟩=(b,0,⟨0,l⟩):=by
 unfold QaT QaM
 rw [List.append_assoc,QcW hn]
 simp
theorem Qdr {r:Rdr} (ok:QaZ r.l) (h:(Qaj r).2.2.e=0):r.e=0/\(Qaj r).2.1=0/\r.l=Qan (Qaj r).1++(Qaj r).2.2.l/\(Qaj r).1<18446744073709551616:=by
 unfold Qaj at h ⊢
 by_cases h1:r.e≠0
 ·rw [if_pos h1] at h;exact absurd h h1
 rw [if_neg h1] at h ⊢
 by_cases h2:(Qai 0 0 r.l).2.2≠0
 ·rw [if_pos h2] at h;exact absurd h h2
 rw [if_neg h2] at h ⊢
 simp only [ne_eq,Decidable.not_not] at h1 h2
 have h3:=QgW (l:=r.l) (n:=(Qai 0 0 r.l).1) (k:=(Qai 0 0 r.l).2.1) ok (Prod.ext rfl (Prod.ext rfl h2))
 exact ⟨h1,rfl,h3.1,h3.2.2⟩
theorem Qc2 {r:Rdr}:(Qaj r).2.1=(Qaj r).2.2.e:=by
 unfold Qaj
 split
 ·rfl
 split<;>rfl
theorem Qbu {r:Rdr} (ok:QaZ r.l):QaZ (Qaj r).2.2.l:=by
 unfold Qaj
 split
 ·exact ok
 split
 ·exact ok
 exact ok.drop _
theorem Qcg {r:Rdr} (ok:QaZ r.l):QaZ (QaT r).2.2.l/\QaZ (QaT r).1:=by
 have h:=Qbu ok
 unfold QaT
 split
 ·exact ⟨h,by intro c hc;cases hc⟩
 split
 ·exact ⟨h,by intro c hc;cases hc⟩
 exact ⟨h.drop _,h.take _⟩
theorem Qqm {r:Rdr}:(QaT r).2.1=(QaT r).2.2.e:=by
 unfold QaT
 split
 ·exact Qc2
 split<;>rfl
theorem Qh8 {r:Rdr} (ok:QaZ r.l) (h:(QaT r).2.2.e=0):r.e=0/\(QaT r).2.1=0/\r.l=QaM (QaT r).1++(QaT r).2.2.l/\(QaT r).1.length<18446744073709551616:=by
 unfold QaT at h ⊢
 by_cases h1:(Qaj r).2.1≠0
 ·rw [if_pos h1] at h
  rw [Qc2] at h1
  exact absurd h h1
 rw [if_neg h1] at h ⊢
 by_cases h2:(Qaj r).2.2.l.length<(Qaj r).1
 ·rw [if_pos h2] at h;cases h
 rw [if_neg h2] at h ⊢
 have h3:(Qaj r).2.2.e=0:=by rw [← Qc2];simpa using h1
 obtain ⟨a,b,c,d⟩:=Qdr ok h3
 have hl:((Qaj r).2.2.l.take (Qaj r).1).length=(Qaj r).1:=by rw [List.length_take];omega
 refine ⟨a,rfl,?_,by rw [hl];exact d⟩
 show r.l=Qan _++_++_
 rw [hl,List.append_assoc,List.take_append_drop]
 exact c
theorem Qdb {r:Rdr}:QaU r=true↔r.e=0/\r.l=[]:=by
 unfold QaU
 rw [Bool.and_eq_true,decide_eq_true_iff,decide_eq_true_iff,List.length_eq_zero_iff]
end Go.Vx
namespace Go.Vx
def QuZ:Nat:=3988292384
def Qe2 (w:Nat):Nat:=if w%2=1 then (w/2) ^^^ QuZ else w/2
def QuY (w:Nat):Nat:=Qe2 (Qe2 (Qe2 (Qe2 (Qe2 (Qe2 (Qe2 (Qe2 w)))))))
def Qmh (w:Nat) (c:Int):Nat:=QuY (w ^^^ c.toNat)
def Qj9 (w:Nat) (l:Bs):Nat:=l.foldl Qmh w
def QbF (l:Bs):Nat:=Qj9 4294967295 l ^^^ 4294967295
def QoO:List Nat:=[0,498536548,997073096,651767980,1994146192,1802195444,1303535960,1342533948,3988292384,4027552580,3604390888,3412177804,2607071920,2262029012,2685067896,3183342108]
def QiF (w:Nat):Nat:=(w/16) ^^^ QoO.getD (w%16) 0
theorem Qf3 (a b:Nat):Qe2 (a ^^^ b)=Qe2 a ^^^ Qe2 b:=by
 have hd:(a ^^^ b)/2=a/2 ^^^ b/2:=Nat.xor_div_two
 have hm:(a ^^^ b)%2=(a+b)%2:=by
  have:=@Nat.xor_mod_two_pow a b 1
  rw [show (2:Nat) ^ 1=2 from rfl] at this
  rw [this]
  rcases Nat.mod_two_eq_zero_or_one a with ha|ha<;>rcases Nat.mod_two_eq_zero_or_one b with hb|hb<;>rw [ha,hb]<;>simp<;>omega
 unfold Qe2
 rw [hd,hm]
 rcases Nat.mod_two_eq_zero_or_one a with ha|ha<;>rcases Nat.mod_two_eq_zero_or_one b with hb|hb
 ·rw [if_neg (by omega),if_neg (by omega),if_neg (by omega)]
 ·rw [if_pos (by omega),if_neg (by omega),if_pos (by omega),Nat.xor_assoc]
 ·rw [if_pos (by omega),if_pos (by omega),if_neg (by omega),Nat.xor_assoc,Nat.xor_assoc,Nat.xor_comm (b/2) QuZ]
 rw [if_neg (by omega),if_pos (by omega),if_pos (by omega)]
 rw [Nat.xor_assoc,← Nat.xor_assoc QuZ,Nat.xor_comm QuZ (b/2),Nat.xor_assoc (b/2),Nat.xor_self,Nat.xor_zero]
theorem QmY (w:Nat):16*(w/16) ^^^ w%16=w:=by
 have h1:(16*(w/16) ^^^ w%16)/16=w/16:=by
  have:=Nat.shiftRight_xor_distrib (a:=16*(w/16)) (b:=w%16) (i:=4)
  simp only [Nat.shiftRight_eq_div_pow] at this
  rw [show (2:Nat) ^ 4=16 from rfl] at this
  rw [this,show 16*(w/16)/16=w/16 by omega,show w%16/16=0 by omega,Nat.xor_zero]
 have h2:(16*(w/16) ^^^ w%16)%16=w%16:=by
  have:=@Nat.xor_mod_two_pow (16*(w/16)) (w%16) 4
  rw [show (2:Nat) ^ 4=16 from rfl] at this
  rw [this,show 16*(w/16)%16=0 by omega,Nat.zero_xor,Nat.mod_mod]
 omega
theorem Qe3 (q:Nat):Qe2 (2*q)=q:=by unfold Qe2;rw [if_neg (by omega)];omega
theorem QmA (w:Nat):Qe2 (Qe2 (Qe2 (Qe2 w)))=QiF w:=by
 conv=>lhs;rw [← QmY w]
 rw [Qf3,Qf3,Qf3,Qf3]
 rw [show 16*(w/16)=2*(2*(2*(2*(w/16)))) by omega,Qe3,Qe3,Qe3,Qe3]
 unfold QiF
 congr 1
 have h:∀ r<16,Qe2 (Qe2 (Qe2 (Qe2 r)))=QoO.getD r 0:=by decide
 exact h _ (by omega)
theorem QrM (w:Nat):QuY w=QiF (QiF w):=by rw [← QmA,← QmA];rfl
theorem QdV {w:Nat} (h:w<4294967296):Qe2 w<4294967296:=by
 unfold Qe2
 split
 ·exact Nat.xor_lt_two_pow (n:=32) (by omega) (by decide)
 omega
theorem Qs0 {w:Nat} (h:w<4294967296):QuY w<4294967296:=QdV (QdV (QdV (QdV (QdV (QdV (QdV (QdV h)))))))
theorem QjV {w:Nat} {c:Int} (h:w<4294967296) (hc:c<256):Qmh w c<4294967296 :=
 Qs0 (Nat.xor_lt_two_pow (n:=32) h (by omega))
theorem Qmw:∀ {l:Bs} {w:Nat},w<4294967296->QaZ l->Qj9 w l<4294967296
 | [],_,h,_=>h
 | c :: l,w,h,ok=>by
  have h1:Qmh w c<4294967296:=QjV h (ok _ List.mem_cons_self).2
  exact Qmw (l:=l) h1 ok.tail
theorem Qof {l:Bs} (ok:QaZ l):QbF l<4294967296:=Nat.xor_lt_two_pow (n:=32) (Qmw (by omega) ok) (by decide)
def Qek (s:Nat):Bs:=[((s%256:Nat):Int),((s/256%256:Nat):Int),((s/65536%256:Nat):Int),((s/16777216%256:Nat):Int)]
theorem Qsn (s:Nat):QaZ (Qek s):=by
 intro c hc
 simp only [Qek,List.mem_cons,List.not_mem_nil,or_false] at hc
 rcases hc with rfl|rfl|rfl|rfl<;>omega
def Qaz (b:Bs):Bs:=QaM b++Qek (QbF (QaM b))
theorem Qdo {b:Bs} (ok:QaZ b):QaZ (QaM b):=(Qc6 _).app ok
theorem Qf0 {b:Bs} (ok:QaZ b):QaZ (Qaz b):=(Qdo ok).app (Qsn _)
def QaP (l:Bs):Bs × Nat × Nat :=
 if (Qai 0 0 l).2.2≠0 then ([],0,(Qai 0 0 l).2.2) else if 4096<(Qai 0 0 l).1 then ([],0,5) else
 if l.length<(Qai 0 0 l).2.1+(Qai 0 0 l).1+4 then ([],0,4) else
 if Qek (QbF (l.take ((Qai 0 0 l).2.1+(Qai 0 0 l).1)))≠(l.drop ((Qai 0 0 l).2.1+(Qai 0 0 l).1)).take 4 then ([],0,6) else
 ((l.drop (Qai 0 0 l).2.1).take (Qai 0 0 l).1,(Qai 0 0 l).2.1+(Qai 0 0 l).1+4,0)
theorem Qkt {b:Bs} (hb:b.length<=4096) (l:Bs):QaP (Qaz b++l)=(b,(Qaz b).length,0):=by
 have hg:Qai 0 0 (Qaz b++l)=(b.length,(Qan b.length).length,0):=by
  unfold Qaz QaM
  rw [List.append_assoc,List.append_assoc,QkX (by omega)]
 have hl:(Qaz b).length=(Qan b.length).length+b.length+4:=by simp [Qaz,QaM,Qek];omega
 have h1:(Qaz b++l).take ((Qan b.length).length+b.length)=QaM b:=by
  unfold Qaz
  rw [List.append_assoc]
  exact List.take_left' (by simp [QaM])
 have h2:((Qaz b++l).drop ((Qan b.length).length+b.length)).take 4=Qek (QbF (QaM b)):=by
  unfold Qaz
  rw [List.append_assoc,List.drop_left' (by simp [QaM])]
  exact List.take_left' rfl
 have h3:((Qaz b++l).drop (Qan b.length).length).take b.length=b:=by
  unfold Qaz QaM
  rw [List.append_assoc,List.append_assoc,List.drop_left' rfl]
  exact List.take_left' rfl
 unfold QaP
 rw [hg]
 simp only [ne_eq,not_true_eq_false,if_false]
 rw [if_neg (by omega),if_neg (by rw [QQ7];omega),h1,h2,if_neg (by simp),h3,hl]
theorem QjD {l b:Bs} {k:Nat} (ok:QaZ l) (h:QaP l=(b,k,0)):b.length<=4096/\l=Qaz b++l.drop k/\k=(Qaz b).length:=by
 unfold QaP at h
 generalize hg:Qai 0 0 l=g at h
 obtain ⟨n,j,e⟩:=g
 simp only at h
 split at h
 ·rename_i h0
  have:e=0:=congrArg (·.2.2) h
  exact absurd this h0
 rename_i h0
 simp only [ne_eq,Decidable.not_not] at h0
 subst h0
 obtain ⟨g1,g2,g3⟩:=QgW ok hg
 split at h
 ·cases h
 rename_i h4
 split at h
 ·cases h
 rename_i h5
 split at h
 ·cases h
 rename_i h6
 simp only [ne_eq,Decidable.not_not] at h6
 cases h
 have hlen:((l.drop j).take n).length=n:=by rw [List.length_take,List.length_drop];omega
 have hb:QaM ((l.drop j).take n)=l.take (j+n):=by
  unfold QaM
  rw [hlen,List.take_add]
  congr 1
  conv=>rhs;rw [g1]
  rw [g2]
  exact (List.take_left' rfl).symm
 have hw:Qaz ((l.drop j).take n)=l.take (j+n+4):=by
  unfold Qaz
  rw [hb,h6,List.take_add (i:=j+n) (j:=4)]
 refine ⟨by rw [hlen];omega,by rw [hw,List.take_append_drop],by rw [hw,List.length_take];omega⟩
end Go.Vx
namespace Go.Vx
open Go.RowKit
def rdR (v:Value) (k:Nat) (ls:List (List Value)):Res :=
 ⟨fun w S=>Rd w v k ls/\(ls≠[]->S (bkS v)),by
  rintro w w' S hw ⟨h,hs⟩
  refine ⟨⟨h.len,h.small,h.shape,fun i j l u hi hj=>?_,h.room⟩,hs⟩
  have hc:=h.cell i j l u hi hj
  have hne:ls≠[]:=by intro e;subst e;simp at hi
  unfold World.cell? at hc ⊢
  rw [hw _ (hs hne)]
  exact hc⟩
theorem QlW {w:World} {S:Nat->Prop} {v:Value} {ls:List (List Value)} {e k:Nat} (h:(row v ls e k).holds w S):(rdR v k ls).holds w S:=by
 refine ⟨Rd.of_row h,fun hne=>?_⟩
 obtain ⟨_,ho,hs⟩:=h
 rcases ho.2 with ⟨_,hn⟩|⟨g,cap,cur,hv,_⟩
 ·exact absurd (List.eq_nil_of_length_eq_zero hn) hne
 have:=hs g (by rw [hv];rfl)
 rw [hv];exact this
theorem QkO {w:World} {S:Nat->Prop} {a:Option Addr} {c k lo n':Nat} {α:Type} {enc:α->List Value} {l:List α} (h:(rdR (.slice a l.length c) k (l.map enc)).holds w S) (h1:lo<=l.length) (hn:n'=(l.drop lo).length):(rdR (.slice (sla a lo c k) n' (c-lo)) k ((l.drop lo).map enc)).holds w S:=by
 refine ⟨h.1.dropM lo h1 n' (by rw [hn,List.length_drop]),fun hne=>?_⟩
 have hl:lo<l.length:=by
  rcases Nat.lt_or_ge lo l.length with h|h
  ·exact h
  rw [List.drop_eq_nil_of_le h] at hne;exact absurd rfl hne
 have h2:=h.2 (by intro e;have:=congrArg List.length e;rw [QQ6,List.length_nil] at this;omega)
 obtain ⟨b,o,c',hv⟩:=h.1.ptr (i:=lo) (by simpa using hl)
 simp only [Value.slice.injEq] at hv
 obtain ⟨rfl,_,_⟩:=hv
 unfold sla
 split
 ·exact h2
 simp only [Option.map_some,QaR]
 exact h2
theorem Own.rdr {w0 w:World} {M:Nat->Prop} {L:List Res} (hs:Own w0 M w L) (i:Nat) {v:Value} {ls:List (List Value)} {k:Nat} (hi:L[i]?=some (rdR v k ls)):Rd w v k ls:=by
 obtain ⟨S,h,_⟩:=hs.get i hi
 exact h.1
abbrev byv (a:Option Addr) (l:Bs) (c:Nat):Value:=.slice a l.length c
def rR (T p:Nat) (r:Rdr):Res:=exR fun x:Option Addr × Nat=>star [blk p [.bool true,.int .i64 (r.e:Int),byv x.1 r.l x.2] T,rdR (byv x.1 r.l x.2) 1 (r.l.map (ic .u8))]
theorem Qnz {T p:Nat} {r:Rdr} {w:World} {S:Nat->Prop} (h:(rR T p r).holds w S) (hlt:∀ x,S x->x<w.heap.size):∃ a c,Own w S w [blk p [.bool true,.int .i64 (r.e:Int),byv a r.l c] T,rdR (byv a r.l c) 1 (r.l.map (ic .u8))]:=by
 obtain ⟨x,h⟩:=h
 exact ⟨x.1,x.2,Own.open h hlt⟩
theorem Qev {T p:Nat} {w w0:World} {M:Nat->Prop} {a:Option Addr} {c e:Nat} {l:Bs} (h:Own w0 M w [blk p [.bool true,.int .i64 (e:Int),byv a l c] T,rdR (byv a l c) 1 (l.map (ic .u8))]):Own w0 M w [rR T p ⟨e,l⟩]:=(Own.shut h).conv 0 rfl fun _ h=>⟨(a,c),h⟩
theorem Qqd {T p:Nat} {w w0:World} {M:Nat->Prop} {a:Option Addr} {c e k n':Nat} {l:Bs} (h:Own w0 M w [blk p [.bool true,.int .i64 (e:Int),.slice (sla a k c 1) n' (c-k)] T,rdR (byv a l c) 1 (l.map (ic .u8))]) (hk:k<=l.length) (hn:n'=(l.drop k).length):Own w0 M w [rR T p ⟨e,l.drop k⟩]:=by
 have:=h.conv 1 (R':=rdR (byv (sla a k c 1) (l.drop k) (c-k)) 1 ((l.drop k).map (ic .u8))) rfl fun _ h=>QkO h hk rfl
 subst hn
 exact Qev this
def wR (T B p:Nat) (e:Nat) (l:Bs):Res:=exR fun x:Option Addr × Nat=>star [blk p [.bool true,.int .i64 (e:Int),byv x.1 l x.2] T,row (byv x.1 l x.2) (l.map (ic .u8)) B 1]
theorem QmX {T B p e:Nat} {l:Bs} {w:World} {S:Nat->Prop} (h:(wR T B p e l).holds w S) (hlt:∀ x,S x->x<w.heap.size):∃ a c,Own w S w [blk p [.bool true,.int .i64 (e:Int),byv a l c] T,row (byv a l c) (l.map (ic .u8)) B 1]:=by
 obtain ⟨x,h⟩:=h
 exact ⟨x.1,x.2,Own.open h hlt⟩
theorem Qiu {T B p e:Nat} {w w0:World} {M:Nat->Prop} {a:Option Addr} {c:Nat} {l:Bs} (h:Own w0 M w [blk p [.bool true,.int .i64 (e:Int),byv a l c] T,row (byv a l c) (l.map (ic .u8)) B 1]):Own w0 M w [wR T B p e l]:=(Own.shut h).conv 0 rfl fun _ h=>⟨(a,c),h⟩
end Go.Vx
namespace Go.Vx
open Go.RowKit
theorem Qj2 {k:IntKind} (hs:k.signed=false) {x:Nat} (hx:x<2 ^ k.bits):k.wrap (x:Int)=(x:Int):=by
 cases k<;>first|(cases hs;done)|skip
 ·rw [IntKind.wrap_u8];have:x<2 ^ 8:=hx;omega
 ·rw [IntKind.wrap_u16];have:x<2 ^ 16:=hx;omega
 ·rw [IntKind.wrap_u32];have:x<2 ^ 32:=hx;omega
 rw [IntKind.wrap_u64];have:x<2 ^ 64:=hx;omega
theorem Qka {k:IntKind} (hs:k.signed=false) {x y:Nat} (hx:x<2 ^ k.bits) (hy:y<2 ^ k.bits) :
  bits .and k (x:Int) (y:Int)=((x &&& y:Nat):Int)/\bits .or k (x:Int) (y:Int)=((x ||| y:Nat):Int)/\bits .xor k (x:Int) (y:Int)=((x ^^^ y:Nat):Int):=by
 have e1:(BitVec.ofInt k.bits (x:Int)).toNat=x:=by rw [BitVec.ofInt_natCast,BitVec.toNat_ofNat,Nat.mod_eq_of_lt hx]
 have e2:(BitVec.ofInt k.bits (y:Int)).toNat=y:=by rw [BitVec.ofInt_natCast,BitVec.toNat_ofNat,Nat.mod_eq_of_lt hy]
 refine ⟨?_,?_,?_⟩
 ·show k.wrap ((BitVec.ofInt k.bits (x:Int) &&& BitVec.ofInt k.bits (y:Int)).toNat:Int)=_
  rw [BitVec.toNat_and,e1,e2]
  exact Qj2 hs (Nat.lt_of_le_of_lt Nat.and_le_left hx)
 ·show k.wrap ((BitVec.ofInt k.bits (x:Int) ||| BitVec.ofInt k.bits (y:Int)).toNat:Int)=_
  rw [BitVec.toNat_or,e1,e2]
  exact Qj2 hs (Nat.or_lt_two_pow hx hy)
 show k.wrap ((BitVec.ofInt k.bits (x:Int) ^^^ BitVec.ofInt k.bits (y:Int)).toNat:Int)=_
 rw [BitVec.toNat_xor,e1,e2]
 exact Qj2 hs (Nat.xor_lt_two_pow hx hy)
theorem Qu2 (m:Nat):bits .or .u8 ((m%256:Nat):Int) 128=((m%128+128:Nat):Int):=by
 have h:=(Qka (k:=.u8) rfl (x:=m%256) (y:=128) (by show m%256<256;omega) (by decide)).2.1
 refine h.trans ?_
 have key:∀ r<256,r ||| 128=r%128+128:=by decide +kernel
 rw [key _ (by omega),show m%256%128=m%128 by omega]
theorem QtX {c:Int} (h:0<=c/\c<256):bits .and .u8 c 127=((c.toNat%128:Nat):Int):=by
 have e:c=((c.toNat:Nat):Int):=by omega
 have h:=(Qka (k:=.u8) rfl (x:=c.toNat) (y:=127) (by show c.toNat<256;omega) (by decide)).1
 rw [e]
 refine h.trans ?_
 have key:∀ r<256,r &&& 127=r%128:=by decide +kernel
 rw [key _ (by omega)]
 simp
theorem Qt5 {c:Int} (h:0<=c/\c<256):(!decide (bits .and .u8 c 128=0))=decide (128<=c):=by
 have e:c=((c.toNat:Nat):Int):=by omega
 have h2:=(Qka (k:=.u8) rfl (x:=c.toNat) (y:=128) (by show c.toNat<256;omega) (by decide)).1
 have key:∀ r<256,(!decide (((r &&& 128:Nat):Int)=0))=decide ((128:Int)<=(r:Int)):=by decide +kernel
 have h3:=key c.toNat (by omega)
 rw [← e] at h3
 rw [← h3,← h2,← e]
 rfl
theorem Qtx {w:Nat} (h:w<4294967296):bits .and .u32 (w:Int) 15=((w%16:Nat):Int):=by
 have h1:=(Qka (k:=.u32) rfl (x:=w) (y:=15) (by show w<2 ^ 32;omega) (by decide)).1
 refine h1.trans ?_
 have:=Nat.and_two_pow_sub_one_eq_mod w 4
 rw [show (2:Nat) ^ 4-1=15 from rfl,show (2:Nat) ^ 4=16 from rfl] at this
 rw [this]
theorem Qj7 {x y:Nat} (hx:x<4294967296) (hy:y<4294967296):bits .xor .u32 (x:Int) (y:Int)=((x ^^^ y:Nat):Int) :=
 (Qka (k:=.u32) rfl (by show x<2 ^ 32;omega) (by show y<2 ^ 32;omega)).2.2
theorem Qwu {x y:Nat} (hx:x<18446744073709551616) (hy:y<18446744073709551616):bits .or .u64 (x:Int) (y:Int)=((x ||| y:Nat):Int) :=
 (Qka (k:=.u64) rfl (by show x<2 ^ 64;omega) (by show y<2 ^ 64;omega)).2.1
theorem QpT {n x i:Nat} (hn:n<128 ^ i):n ||| x*128 ^ i=n+x*128 ^ i:=by
 have e:(128:Nat) ^ i=2 ^ (7*i):=by rw [Nat.pow_mul]
 rw [e] at hn ⊢
 rw [Nat.or_comm,Nat.mul_comm x,← Nat.two_pow_add_eq_or_of_lt hn,Nat.add_comm]
variable {P:Program} {ty:TypeId} {e:Operand->Value} {w:World} {K:Value->World->Prop}
theorem QmH {t:TypeId} {x:Operand} {q:Nat} (hx:e x = .int .u32 (q:Int)) (hq:q<4294967296) (h:K (.int .u32 ((q ^^^ 4294967295:Nat):Int)) w):opW P (.unOp .xor t x) ty e w K:=by
 have h1:=(Qka (k:=.u32) rfl (x:=4294967295) (y:=q) (by decide) (by show q<2 ^ 32;omega)).2.2
 rw [Nat.xor_comm] at h1
 rw [← h1] at h
 refine QaO (w':=w) ?_ h
 simp only [execOp,hx,Op.unary]
 rfl
end Go.Vx
namespace Go.Vx
open Go.RowKit
abbrev Str:=List UInt8
abbrev sv (l:Str):Value:=.string ⟨l.toArray⟩
def sOf (l:List Int):Str:=l.map fun n=>UInt8.ofNat n.toNat
theorem QsR (l:List Int):(sOf l).length=l.length:=by simp [sOf]
section
variable {P:Program} {ty:TypeId} {e:Operand->Value} {w:World} {K:Value->World->Prop} {t u:TypeId} {x y:Operand} {a b:Str}
theorem QvM (hx:e x=sv a) (hy:e y=sv b) (h:K (.bool (decide (a=b))) w):opW P (.binOp .eql t x y u) ty e w K:=by
 refine QaO (w':=w) ?_ h
 simp only [execOp,hx,hy,Sem.run_bind,Result.andThen_ok]
 simp [binOp_string_eql,eqGuard]
 by_cases q:a=b<;>simp [q]
theorem QiP (hx:e x=sv a) (hy:e y=sv b) (h:K (.bool (!decide (a=b))) w):opW P (.binOp .neq t x y u) ty e w K:=by
 refine QaO (w':=w) ?_ h
 simp only [execOp,hx,hy,Sem.run_bind,Result.andThen_ok]
 simp [binOp_string_neq,eqGuard]
 by_cases q:a=b<;>simp [q]
theorem QbS {s d el:TypeId} {v:Value} {l:List Int} (hs:P.underlying s=some (.slice el)) (hel:P.underlying el=some (.int .u8)) (hd:P.underlying d=some .string) (hr:Rd w v 1 (l.map (ic .u8))) (hx:e x=v) (h:K (sv (sOf l)) w):opW P (.convert s d x) ty e w K:=by
 refine QaO (w':=w) ?_ h
 have key:(convert s d v).run P w = .ok (sv (sOf l)) w:=by
  rcases hr.shape with ⟨rfl,hl⟩|⟨b,o,c,rfl⟩
  ·have:l=[]:=by simpa using hl
   subst this
   exact run_convert_bytes_nil w s el hs hel 0 0 d hd
  have h1:∀ i,i<l.length->w.cell? ⟨b,o+i,none⟩=some (.int .u8 (l.getD i 0)):=fun i hi=>by
   have:=hr.cell i 0 (ic .u8 l[i]) (.int .u8 l[i]) (by simp [hi]) rfl
   simp only [Nat.mul_one,Nat.add_zero] at this
   have e1:l.getD i 0=l[i]:=by simp [List.getD,List.getElem?_eq_getElem hi]
   rw [e1];exact this
  have:=run_convert_bytes_arg w s el hs hel b o (l.map (ic .u8)).length c l (by simp) (by simpa using h1) d hd
  exact this
 simp only [execOp,hx,Sem.run_bind,key,Result.andThen_ok,Sem.run_pure]
end
def Qdd (L:List Res):List Nat->List Res->List Res
 | i :: is,R :: Rs=>Qdd (L.set i R) is Rs
 | _,_=>L
theorem QhL:∀ (is:List Nat) (Rs L:List Res),(Qdd L is Rs).length=L.length
 | [],_,_=>by simp [Qdd]
 | _ :: _,[],_=>by simp [Qdd]
 | i :: is,R :: Rs,L=>by simp [Qdd,QhL is Rs]
theorem Qfv:∀ (is:List Nat) (Rs L:List Res) (k:Nat),k ∉ is->(Qdd L is Rs)[k]?=L[k]?
 | [],_,_,_,_=>by simp [Qdd]
 | _ :: _,[],_,_,_=>by simp [Qdd]
 | i :: is,R :: Rs,L,k,h=>by
  simp only [List.mem_cons,not_or] at h
  simp only [Qdd]
  rw [Qfv is Rs _ k h.2,List.getElem?_set_ne (fun e=>h.1 e.symm)]
theorem Qjj:∀ (is:List Nat) (Rs L:List Res),is.Nodup->is.length=Rs.length->(∀ i∈is,i<L.length)->∀ (j i:Nat),is[j]?=some i->(Qdd L is Rs)[i]?=Rs[j]?
 | [],_,_,_,_,_,j,i,h=>by simp at h
 | _ :: _,[],_,_,hl,_,_,_,_=>by simp at hl
 | a :: is,R :: Rs,L,hn,hl,hb,j,i,h=>by
  simp only [List.nodup_cons] at hn
  simp only [Qdd]
  cases j with
  | zero =>
   simp at h;subst h
   rw [Qfv is Rs _ a hn.1,List.getElem?_set_self (hb a (by simp))];simp
  | succ j =>
   have:=Qjj is Rs (L.set a R) hn.2 (by simpa using hl) (fun i hi=>by simpa using hb i (by simp [hi])) j i (by simpa using h)
   simpa using this
theorem Qgu:∀ {is:List Nat} (_:is.Nodup) {j j' i:Nat} (_:is[j]?=some i) (_:is[j']?=some i),j=j'
 | [],_,j,j',i,h,_=>by simp at h
 | a :: is,hn,j,j',i,h,h'=>by
  simp only [List.nodup_cons] at hn
  cases j with
  | zero =>
   simp at h;subst h
   cases j' with
   | zero=>rfl
   | succ j'=>exact absurd (List.mem_of_getElem? (by simpa using h')) hn.1
  | succ j =>
   cases j' with
   | zero=>simp at h';subst h';exact absurd (List.mem_of_getElem? (by simpa using h)) hn.1
   | succ j'=>rw [Qgu hn.2 (j:=j) (j':=j') (by simpa using h) (by simpa using h')]
theorem Own.lendS {w0 w:World} {M:Nat->Prop} {L:List Res} (h:Own w0 M w L) (is:List Nat) (Rs:List Res) (hn:is.Nodup) (hi:∀ (j i:Nat),is[j]?=some i->L[i]?=Rs[j]?) (hlen:is.length=Rs.length) :
  ∃ S,(star Rs).holds w S/\(∀ b,S b->b<w.heap.size)/\∀ w' Rs' Lo,Rs'.length=Rs.length->Own w S w' (Rs'++Lo)->Own w0 M w' (Qdd L is Rs'++Lo):=by
 obtain ⟨a,b,c,d,e,S,f,g,i',j'⟩:=h
 have hget:∀ (j i:Nat),is[j]?=some i->∃ R,Rs[j]?=some R/\L[i]?=some R:=by
  intro j i hji
  have hj:j<Rs.length:=by have:=Qav hji;omega
  exact ⟨Rs[j],by simp [hj],by rw [hi j i hji];simp [hj]⟩
 have hidx:∀ j:Nat,j<Rs.length->∃ i,is[j]?=some i:=fun j hj=>⟨is[j]'(by omega),by simp [show j<is.length by omega]⟩
 refine ⟨fun b=>∃ i∈is,S i b,⟨fun j b=>∃ i,is[j]?=some i/\S i b,?_,?_,?_⟩,?_,?_⟩
 ·intro j R hj
  obtain ⟨i,hji⟩:=hidx j (Qav hj)
  obtain ⟨R',hR1,hR2⟩:=hget j i hji
  rw [hj] at hR1;cases hR1
  have e1:(fun b=>∃ i,is[j]?=some i/\S i b)=S i:=by
   funext b;apply propext;constructor
   ·rintro ⟨i2,h1,h2⟩;rw [hji] at h1;cases h1;exact h2
   exact fun h=>⟨i,hji,h⟩
  show R.holds w (fun b=>∃ i,is[j]?=some i/\S i b)
  rw [e1];exact f i R hR2
 ·rintro j j2 b ⟨i,h1,h2⟩ ⟨i2,h3,h4⟩
  have:=i' i i2 b h2 h4;subst this
  exact Qgu hn h1 h3
 ·intro b;constructor
  ·rintro ⟨i,hi1,hb⟩
   obtain ⟨j,hj⟩:=List.mem_iff_getElem?.1 hi1
   exact ⟨j,by have:=Qav hj;omega,i,hj,hb⟩
  rintro ⟨j,_,i,h1,h2⟩;exact ⟨i,List.mem_of_getElem? h1,h2⟩
 ·rintro b ⟨i,_,hb⟩;exact g i b hb
 intro w' Rs' Lo hl hc
 obtain ⟨a',b',c',d',e',S',f',g',i'',j''⟩:=hc
 have hsub:∀ k b,S' k b->b<w.heap.size->∃ i∈is,S i b:=fun k b h hb=>j'' k b h hb
 refine ⟨a'.trans a,⟨b'.1.trans b.1,Nat.le_trans b.2 b'.2⟩,c'.trans c,by omega,fun k hk hm=>?_,
   fun k b=>(k<L.length/\k ∉ is/\S k b)∨(∃ j,is[j]?=some k/\S' j b)∨(L.length<=k/\S' (k-L.length+Rs.length) b),?_,?_,?_,?_⟩
 ·rw [e' k (by omega) (fun ⟨i,_,hs⟩=>hm (j' i k hs hk))];exact e k hk hm
 ·have hbd:∀ i∈is,i<L.length:=fun i hi1=>by
   obtain ⟨j,hj⟩:=List.mem_iff_getElem?.1 hi1
   obtain ⟨R,_,h2⟩:=hget j i hj
   exact Qav h2
  intro k Q hk
  rw [List.getElem?_append,QhL] at hk
  by_cases hkl:k<L.length
  ·rw [if_pos hkl] at hk
   by_cases hki:k∈is
   ·obtain ⟨j,hj⟩:=List.mem_iff_getElem?.1 hki
    rw [Qjj is Rs' L hn (by omega) hbd j k hj] at hk
    have hjl:=Qav hk
    have e1:(fun b=>(k<L.length/\k ∉ is/\S k b)∨(∃ j,is[j]?=some k/\S' j b)∨(L.length<=k/\S' (k-L.length+Rs.length) b))=S' j:=by
     funext b;apply propext;constructor
     ·rintro (⟨_,h,_⟩|⟨j2,h1,h2⟩|⟨h,_⟩)
      ·exact absurd hki h
      ·rw [Qgu hn hj h1];exact h2
      omega
     exact fun h=>.inr (.inl ⟨j,hj,h⟩)
    exact (congrArg (Q.holds w') e1).mpr (f' j Q (by rw [List.getElem?_append_left hjl];exact hk))
   rw [Qfv is Rs' L k hki] at hk
   have e1:(fun b=>(k<L.length/\k ∉ is/\S k b)∨(∃ j,is[j]?=some k/\S' j b)∨(L.length<=k/\S' (k-L.length+Rs.length) b))=S k:=by
    funext b;apply propext;constructor
    ·rintro (⟨_,_,h⟩|⟨j2,h1,h2⟩|⟨h,_⟩)
     ·exact h
     ·exact absurd (List.mem_of_getElem? h1) hki
     omega
    exact fun h=>.inl ⟨hkl,hki,h⟩
   refine (congrArg (Q.holds w') e1).mpr (Q.loc w w' _ (fun b hb=>e' b (g k b hb) (fun ⟨i,h1,h2⟩=>hki (by rw [i' k i b hb h2];exact h1))) (f k Q hk))
  rw [if_neg hkl] at hk
  have e1:(fun b=>(k<L.length/\k ∉ is/\S k b)∨(∃ j,is[j]?=some k/\S' j b)∨(L.length<=k/\S' (k-L.length+Rs.length) b))=S' (k-L.length+Rs.length):=by
   funext b;apply propext;constructor
   ·rintro (⟨h,_⟩|⟨j2,h1,h2⟩|⟨_,h⟩)
    ·omega
    ·exact absurd (hbd k (List.mem_of_getElem? h1)) hkl
    exact h
   exact fun h=>.inr (.inr ⟨by omega,h⟩)
  refine (congrArg (Q.holds w') e1).mpr (f' _ Q ?_)
  rw [List.getElem?_append_right (by omega),← hk]
  congr 1;omega
 ·rintro k b (⟨_,_,h⟩|⟨j,_,h⟩|⟨_,h⟩)
  ·have:=g k b h;omega
  ·exact g' _ b h
  exact g' _ b h
 ·have hbd:∀ (j k:Nat),is[j]?=some k->k<L.length:=fun j k h=>by
   obtain ⟨R,_,h2⟩:=hget j k h
   exact Qav h2
  have hjl:∀ (j k:Nat),is[j]?=some k->j<Rs.length:=fun j k h=>by have:=Qav h;omega
  have hno:∀ k b j,k ∉ is->S k b->S' j b->False:=fun k b j h1 h2 h3=>by
   obtain ⟨i,hi1,h4⟩:=hsub j b h3 (g k b h2)
   exact h1 (by rw [i' k i b h2 h4];exact hi1)
  rintro k k' b (⟨h1,h2,h3⟩|⟨j,h1,h2⟩|⟨h1,h2⟩) (⟨h4,h5,h6⟩|⟨j2,h4,h5⟩|⟨h4,h5⟩)
  ·exact i' k k' b h3 h6
  ·exact (hno k b _ h2 h3 h5).elim
  ·exact (hno k b _ h2 h3 h5).elim
  ·exact (hno k' b _ h5 h6 h2).elim
  ·have:=i'' j j2 b h2 h5;subst this;rw [h1] at h4;cases h4;rfl
  ·have:=i'' _ _ b h2 h5;have:=hjl _ _ h1;omega
  ·exact (hno k' b _ h5 h6 h2).elim
  ·have:=i'' _ _ b h2 h5;have:=hjl _ _ h4;omega
  have:=i'' _ _ b h2 h5;omega
 rintro k b (⟨_,_,h⟩|⟨j,_,h⟩|⟨_,h⟩) hb
 ·exact j' k b h hb
 ·obtain ⟨i,_,h2⟩:=hsub _ b h (by omega)
  exact j' i b h2 hb
 obtain ⟨i,_,h2⟩:=hsub _ b h (by omega)
 exact j' i b h2 hb
section
variable {P:Program} {ty:TypeId} {e:Operand->Value} {w:World} {K:Value->World->Prop} {w0:World} {M:Nat->Prop} {L:List Res}
theorem Qen {α:Type} {f:FuncId} {xs:List Operand} {vs:List Value} {ats:Array TypeId} {V:α->Value} {Rs:List Res} {Rs':α->List Res} {Lo:α->List Res} {F:α->World->Prop} (hf:En P f) (hef:e (.func f) = .func (.func f) #[] #[]) (hv:xs.map e=vs)
  (hs:Own w0 M w L) (is:List Nat) (hn:is.Nodup) (hi:is.map (fun i=>L[i]?)=Rs.map some) (hl:∀ x,(Rs' x).length=Rs.length)
  (hc:∀ S,(star Rs).holds w S->(∀ b,S b->b<w.heap.size)->Calls P f vs.toArray w fun r w'=>∃ x,r = .returned (V x)/\Own w S w' (Rs' x++Lo x)/\F x w') (h:∀ x w',Own w0 M w' (Qdd L is (Rs' x)++Lo x)->F x w'->K (V x) w') :
  opW P (.call { callee:=.value (.func f),args:=xs.toArray,argTypes:=ats }) ty e w K:=by
 have hlen:is.length=Rs.length:=by have:=congrArg List.length hi;simpa using this
 obtain ⟨S,hR,hlt,hback⟩:=hs.lendS is Rs hn (fun j i hji=>by
  have h1:=congrArg (·[j]?) hi
  have hj:j<Rs.length:=by have:=Qav hji;omega
  simp only [List.getElem?_map,hji,Option.map_some,List.getElem?_eq_getElem hj,Option.some.injEq] at h1
  rw [h1];simp [hj]) hlen
 exact Qhb hf hef (by rw [List.map_toArray,hv]) ((hc S hR hlt).mono fun r w' ⟨x,hr,ho,hF⟩=>⟨V x,hr,h x w' (hback w' _ _ (hl x) ho) hF⟩)
end
end Go.Vx
namespace Go.Proofs
open Go Go.Vx Go.RowKit
open Tryz
namespace Tt
theorem Qca:El prog 30 5 1 1:=⟨underlying30,_,_,type5,rfl,rfl,rfl,rfl,by decide⟩
theorem Qum:En prog 245:=call245
theorem QbJ:Ud prog 30 (.slice 5):=runUnderlying30
theorem Qtz:Ud prog 35 (.array 16 34):=runUnderlying35
end Tt
end Go.Proofs
namespace Go.Vx
open Go.RowKit
def q4 (l:List Int):List Value:=l.map (Value.int .u8)
theorem Qq7 (l:List Int):∀ v∈q4 l,v.oneCell'=true:=by
 intro v hv
 obtain ⟨x,_,rfl⟩:=List.mem_map.1 hv
 rfl
section
variable {P:Program} {ty:TypeId} {e:Operand->Value} {w:World} {K:Value->World->Prop} {w0:World} {M:Nat->Prop} {L:List Res}
theorem Qa8.rdU {b:Nat} {l:List Int} {cs:List Value} (h:Qa8 w b cs) (hcs:cs=l.map (Value.int .u8)) (hn:l.length<=1000000):Rd w (.slice (some ⟨b,0,none⟩) l.length l.length) 1 (l.map (ic .u8)):=by
 subst hcs
 refine ⟨by simp [ic],by simp;omega,.inr ⟨b,0,l.length,by simp⟩,fun i j m u hi hj=>?_,by simp [cOf]⟩
 simp only [List.getElem?_map] at hi
 cases hl:l[i]? with
 | none=>rw [hl] at hi;cases hi
 | some x =>
  rw [hl] at hi
  simp only [Option.map_some,Option.some.injEq] at hi
  subst hi
  have hj0:j=0:=by have:=Qav hj;simp [ic] at this;omega
  subst hj0
  simp [ic] at hj;subst hj
  show w.cell? ⟨b,0+i*1+0,none⟩=_
  rw [Nat.zero_add,Nat.mul_one,Nat.add_zero]
  exact h i _ (by rw [List.getElem?_map,hl];rfl)
theorem Qs2 {t el n b:Nat} {x:Operand} (ht:P.underlying t=some (.array n el)) (hk:Sz P el 1) (hx:e x = .pointer (some ⟨b,0,none⟩)) (hK:K (.slice (some ⟨b,0,none⟩) n n) w):opW P (.slice t x none none none) ty e w K:=by
 have hel:P.elem t=el:=by simp [Program.elem,ht]
 have hal:P.arrayLen t=n:=by simp [Program.arrayLen,ht]
 have ht':P.underlying t=some (.array (P.arrayLen t) (P.elem t)):=by rw [hel,hal];exact ht
 have hat:(Instr.sliceAt t (.pointer (some ⟨b,0,none⟩)) none none none).run P w = .ok (.slice (some ⟨b,0,none⟩) n n) w:=by
  rw [run_sliceAt_array_all w t _ ht',hel,hk w,hal]
  show Result.ok (slicedAt ⟨b,0,none⟩ 0 n n 1) w=_
  unfold slicedAt
  split
  ·simp
  simp [Addr.add]
 refine QaO (w':=w) ?_ hK
 simp only [execOp,hx,Option.map_none,Sem.run_bind,hat,Result.andThen_ok,Sem.run_pure]
end
end Go.Vx
namespace Go.Proofs
open Go Go.Vx Go.RowKit
open Tryz
namespace Tt
theorem QkN:TA prog 217 4:=⟨sizeOf217,isAgg217⟩
theorem Quw:Bt prog 217 [(0,1),(1,1),(2,1),(3,1)] (q4 [0,0,0,0]):=Qid type217 rfl rfl underlying217 type5 rfl (k:=1) rfl
theorem Qnj:En prog 117:=call117
theorem QqR:En prog 119:=call119
theorem QtV:En prog 188:=call188
theorem QoC:prog.underlying 217=some (.array 4 5):=underlying217
theorem Qq1:Zv prog 217 (.agg (q4 [0,0,0,0]).toArray):=zeroValue217
end Tt
end Go.Proofs
namespace Go.Proofs
open Go Go.Vx Go.RowKit
open Tryz
namespace Tt
theorem Qel:En prog 159:=call159
theorem QuB:En prog 231:=call231
end Tt
end Go.Proofs
namespace Go.Vx
open Go.RowKit
section
variable {P:Program} {ty:TypeId} {e:Operand->Value} {w:World} {K:Value->World->Prop} {w0:World} {M:Nat->Prop} {L:List Res}
theorem QvS {t el n k:Nat} {x:Operand} {v:Value} {ls:List (List Value)} (ht:P.underlying t=some (.array n el)) (hr:Rd w v k ls) (h0:0<ls.length) (hn:n<=ls.length) (hx:e x=v) (h:K (.pointer (some ⟨bkS v,ofS v,none⟩)) w):opW P (.sliceToArrayPointer t x) ty e w K:=by
 obtain ⟨b,o,c,hv⟩:=hr.ptr h0
 subst hv
 refine QaO (w':=w) ?_ h
 have hat:(Instr.arrayAt t (.slice (some ⟨b,o,none⟩) ls.length c)).run P w = .ok (.pointer (some ⟨b,o,none⟩)) w:=run_arrayAt w t el n _ _ _ ht hn
 simp only [execOp,hx,Sem.run_bind,hat,Result.andThen_ok,Sem.run_pure]
 rfl
theorem Qve {t n m:Nat} {x:Operand} {v:Value} {l:List Int} (ht:TA P t n) (hr:Rd w v 1 (l.map (ic .u8))) (hn:n<=l.length) (hx:e x = .pointer (some ⟨bkS v,m,none⟩)) (hm:m=ofS v) (h:K (.agg (q4 (l.take n)).toArray) w):opW P (.load t x) ty e w K:=by
 subst hm
 refine Qn9 ht (by simp [q4];omega) (fun a u ha=>?_) hx h
 have h1:=hr.cell a 0
 rw [Nat.mul_one,Nat.add_zero] at h1
 simp only [q4,List.getElem?_map] at ha
 cases hl:(l.take n)[a]? with
 | none=>rw [hl] at ha;cases ha
 | some y =>
  rw [hl] at ha
  have hl':l[a]?=some y:=by
   rw [List.getElem?_take] at hl
   split at hl
   ·exact hl
   cases hl
  refine h1 (ic .u8 y) u (by rw [List.getElem?_map,hl'];rfl) ?_
  simpa [ic] using ha
end
theorem QrA {a b:List Int} {n:Nat} (ha:a.length=n) (hb:b.length=n):QrB (fun i=>decide (a.getD i 0=b.getD i 0)) n=decide (a=b):=by
 unfold QrB
 rw [Bool.eq_iff_iff,List.all_eq_true,decide_eq_true_iff]
 constructor
 ·intro h
  refine List.ext_getElem (ha.trans hb.symm) fun i h1 h2=>?_
  have:=QQ1 (h i (List.mem_range.2 (by omega)))
  simpa only [List.getD_eq_getElem?_getD,List.getElem?_eq_getElem h1,List.getElem?_eq_getElem h2,Option.getD_some] using this
 intro h i _
 rw [h];simp
theorem Qux {P:Program} {t el n:TypeId} {ie:TypeInfo} (ht:P.underlying t=some (.array n el)) (hi:P.info? el=some ie) (hk:P.cellsOf el=1) (he:Ud P el (.int .u8)) (h1:T1 P el) {a b:List Int} (ha:a.length=n) (hb:b.length=n):EqF P 2 t (.agg (q4 a).toArray) (.agg (q4 b).toArray) (decide (a=b)):=by
 rw [← QrA ha hb]
 have at_:∀ {l:List Int} {i:Nat},i<l.length->(q4 l)[i*1]?=some (.int .u8 (l.getD i 0)):=fun {l i} h=>by
  rw [Nat.mul_one,q4,List.getElem?_map,List.getElem?_eq_getElem h,List.getD_eq_getElem?_getD,List.getElem?_eq_getElem h];rfl
 exact Qg0 ht hi hk (us:=fun i=>.int .u8 (a.getD i 0)) (vs:=fun i=>.int .u8 (b.getD i 0)) (fun i hi=>QaQ h1 (at_ (by omega))) (fun i hi=>QaQ h1 (at_ (by omega))) (fun i _=>Qcp he)
theorem QrJ {a b:List Int} (ha:QaZ a) (hb:QaZ b) (h:sOf a=sOf b):a=b:=by
 have hl:a.length=b.length:=by have:=congrArg List.length h;simpa [QsR] using this
 refine List.ext_getElem hl fun i h1 h2=>?_
 have e:(sOf a)[i]?=(sOf b)[i]?:=by rw [h]
 simp only [sOf,List.getElem?_map,List.getElem?_eq_getElem h1,List.getElem?_eq_getElem h2,Option.map_some,Option.some.injEq] at e
 have g1:=ha _ (List.getElem_mem h1)
 have g2:=hb _ (List.getElem_mem h2)
 have e2:=congrArg UInt8.toNat e
 simp only [UInt8.toNat_ofNat'] at e2
 omega
theorem QfF {a b:List Int} (ha:QaZ a) (hb:QaZ b):decide (sOf a=sOf b)=decide (a=b):=by
 by_cases h:a=b
 ·rw [h];simp
 rw [QQ4 h,QQ4 fun e=>h (QrJ ha hb e)]
end Go.Vx
namespace Go.Proofs
open Go Go.Vx Go.RowKit
open Tryz
namespace Tt
theorem Qtm:En prog 286:=call286
theorem QuI:En prog 337:=call337
end Tt
end Go.Proofs
namespace Go.Proofs
open Go Go.Vx Go.RowKit
open Tryz
namespace Tt
theorem Qbh:prog.underlying 30=some (.slice 5):=underlying30
theorem QdG:prog.underlying 5=some (.int .u8):=underlying5
theorem QdF:prog.underlying 9=some (.string):=underlying9
end Tt
end Go.Proofs
namespace Go.Vx
open Go.RowKit
abbrev Pt:=Option Addr
abbrev pt (p:Nat):Pt:=some ⟨p,0,none⟩
structure Thg where
 p:Nat
 bs:List Int
 sf:Nat
structure Chg where
 to:Str
 fr:Str
 t:Pt
structure Dk where
 room:Int
 ts:List Thg
 nm:List (Str × Pt)
 sf:List (Str × Pt)
 ch:List Chg
instance:Inhabited Thg:=⟨⟨0,[],0⟩⟩
instance:Inhabited Chg:=⟨⟨[],[],none⟩⟩
def pts (ts:List Thg):List Pt:=ts.map fun t=>pt t.p
def doC (l:List (Str × Pt)) (c:Chg):List (Str × Pt) :=
 let l1:=if c.fr=[] then l else mdel c.fr l
 match c.t with
 | none=>mdel c.to l1
 | some a=>mput c.to (some a) l1
def Qhk (l:List (Str × Pt)) (cs:List Chg):List (Str × Pt):=cs.foldl doC l
def Qwf (m:Dk) (c:Chg):Dk:={ m with nm:=doC m.nm c,ch:=m.ch++[c] }
section
variable (TD TT U8 TP TC:Nat)
def thP (t:Thg) (a:Option Addr) (c:Nat):List Res:=[blk t.p [.slice a t.bs.length c,.int .i64 ((t.sf:Nat):Int)] TT,row (.slice a t.bs.length c) (t.bs.map (ic .u8)) U8 1]
def thR (t:Thg):Res:=exR fun x:Option Addr × Nat=>star (thP TT U8 t x.1 x.2)
structure DkA where
 a:Option Addr
 c:Nat
 r1:Nat
 r2:Nat
 a2:Option Addr
 c2:Nat
end
section
variable {TD TT U8 TP TC:Nat} {w w0:World} {M:Nat->Prop} {L:List Res}
theorem Qpa {w:World} {S:Nat->Prop}:∀ {ts:List Thg},(star (ts.map (thR TT U8))).holds w S->(ts.map (·.p)).Nodup/\∀ t∈ts,S t.p:=by
 intro ts ⟨T,t1,t2,t3⟩
 have h1:∀ (i:Nat) t,ts[i]?=some t->T i t.p:=by
  intro i t hi
  obtain ⟨x,T2,u1,u2,u3⟩:=t1 i (thR TT U8 t) (by rw [List.getElem?_map,hi];rfl)
  have:=(u1 0 _ rfl).1
  exact (u3 _).2 ⟨0,by simp [thP],this⟩
 refine ⟨?_,fun t ht=>?_⟩
 ·unfold List.Nodup
  rw [List.pairwise_iff_getElem]
  intro i j hi hj hij he
  simp only [QQ6] at hj
  simp only [List.getElem_map] at he
  have a1:=h1 i _ (List.getElem?_eq_getElem (Nat.lt_trans hij hj))
  have a2:=h1 j _ (List.getElem?_eq_getElem hj)
  rw [he] at a1
  have:=t2 i j _ a1 a2
  omega
 obtain ⟨i,hi⟩:=List.mem_iff_getElem?.1 ht
 exact (t3 _).2 ⟨i,by have:=Qav hi;simpa using this,h1 i t hi⟩
theorem Own.things (h:Own w0 M w L) (k:Nat) {ts:List Thg} (hk:L[k]?=some (star (ts.map (thR TT U8)))):(ts.map (·.p)).Nodup:=by
 obtain ⟨S,hS,_⟩:=h.get k hk
 exact (Qpa hS).1
def ThF (w:World) (ts:List Thg):Prop:=∀ t∈ts,∃ a c,Qa8 w t.p [.slice a t.bs.length c,.int .i64 ((t.sf:Nat):Int)]/\Rd w (.slice a t.bs.length c) 1 (t.bs.map (ic .u8))
theorem ThF.own' {ts:List Thg} (h:ThF w0 ts) (hs:Own w0 no w L):ThF w ts:=fun t ht=>by
 obtain ⟨a,c,h1,h2⟩:=h t ht
 exact ⟨a,c,h1.own' hs,h2.own' hs⟩
end
end Go.Vx
namespace Go.Vx
open Go.RowKit
theorem Qsx {ts:List Thg} {i:Nat} {t t':Thg} (hi:ts[i]?=some t) (hp:t'.p=t.p):pts (ts.set i t')=pts ts:=by
 unfold pts
 rw [List.map_set,hp]
 apply List.ext_getElem?
 intro j
 rw [List.getElem?_set]
 by_cases q:i=j
 ·subst q;have:=Qav hi;simp [this,List.getElem?_eq_getElem this] at hi ⊢;rw [hi]
 rw [if_neg q]
def Qwe (m:Dk) (s:Str) (p:Nat) (bs:List Int):Dk:={ m with ts:=m.ts++[⟨p,bs,0⟩],nm:=doC m.nm ⟨s,[],pt p⟩,ch:=m.ch++[⟨s,[],pt p⟩] }
end Go.Vx
namespace Go.Vx
open Go.RowKit
section
variable {κ ν:Type} [DecidableEq κ]
theorem Qfo {k:κ} {v:ν}:∀ {l:List (κ × ν)},mget k l=some v->(k,v)∈l
 | [],h=>by cases h
 | (a,b) :: l,h=>by
  unfold mget at h
  split at h
  ·rename_i e;subst e;cases h;simp
  exact List.mem_cons_of_mem _ (Qfo h)
theorem Qdc (k:κ):∀ (l:List (κ × ν)),(mdel k l).Sublist l
 | []=>List.Sublist.refl _
 | (a,b) :: l=>by
  unfold mdel
  split
  ·exact List.sublist_cons_self _ _
  exact (Qdc k l).cons_cons _
theorem Qg5 (k:κ) (v:ν):∀ (l:List (κ × ν)),(mput k v l).map (·.1)=if k∈l.map (·.1) then l.map (·.1) else l.map (·.1)++[k]
 | []=>by simp [mput]
 | (a,b) :: l=>by
  unfold mput
  split
  ·rename_i e;subst e;simp
  rename_i e
  simp only [List.map_cons,Qg5 k v l,List.mem_cons,e,false_or]
  split<;>simp
theorem Qeb {k:κ} {v:ν} {x:κ × ν}:∀ {l:List (κ × ν)},x∈mput k v l->x=(k,v)∨x∈l
 | [],h=>by simp [mput] at h;exact .inl h
 | (a,b) :: l,h=>by
  unfold mput at h
  split at h
  ·rcases List.mem_cons.1 h with e|e
   ·exact .inl e
   exact .inr (List.mem_cons_of_mem _ e)
  rcases List.mem_cons.1 h with e|e
  ·exact .inr (e ▸ List.mem_cons_self)
  rcases Qeb e with e|e
  ·exact .inl e
  exact .inr (List.mem_cons_of_mem _ e)
theorem QgN {k:κ} {v:ν}:∀ {l:List (κ × ν)},(l.map (·.2)).Nodup->v ∉ l.map (·.2)->((mput k v l).map (·.2)).Nodup
 | [],_,_=>by simp [mput]
 | (a,b) :: l,hn,hv=>by
  simp only [List.map_cons,List.nodup_cons,List.mem_cons,not_or] at hn hv
  unfold mput
  split
  ·simp only [List.map_cons,List.nodup_cons];exact ⟨hv.2,hn.2⟩
  simp only [List.map_cons,List.nodup_cons]
  refine ⟨fun h=>?_,QgN hn.2 hv.2⟩
  obtain ⟨x,hx,he⟩:=List.mem_map.1 h
  rcases Qeb hx with e|e
  ·subst e;exact hv.1 he
  exact hn.1 (List.mem_map.2 ⟨x,e,he⟩)
theorem QgT {k:κ} {v:ν} {j:κ}:∀ {l:List (κ × ν)},mget j (mput k v l)=if j=k then some v else mget j l
 | []=>by unfold mput mget;simp [mget]
 | (a,b) :: l=>by
  unfold mput
  split
  ·rename_i e;subst e
   unfold mget
   by_cases h:j=k<;>simp [h]
  rename_i e
  unfold mget
  by_cases h:j=a
  ·subst h;simp [show ¬j=k from fun e2=>e e2.symm]
  rw [if_neg h,QgT];simp [h]
end
structure KOk (ts:List Thg) (l:List (Str × Pt)):Prop where
 keys:(l.map (·.1)).Nodup
 vals:(l.map (·.2)).Nodup
 some:∀ x∈l,x.2∈pts ts
 long:∀ x∈l,1<=x.1.length
theorem KOk.nil (ts:List Thg):KOk ts []:=⟨by simp,by simp,by simp,by simp⟩
theorem KOk.to {ts ts':List Thg} {l:List (Str × Pt)} (h:KOk ts l) (hp:∀ x∈pts ts,x∈pts ts'):KOk ts' l:=⟨h.keys,h.vals,fun x hx=>hp _ (h.some x hx),h.long⟩
theorem KOk.del {ts:List Thg} {l:List (Str × Pt)} (h:KOk ts l) (s:Str):KOk ts (mdel s l) :=
 ⟨((Qdc s l).map _).nodup h.keys,((Qdc s l).map _).nodup h.vals,fun x hx=>h.some x ((Qdc s l).subset hx),fun x hx=>h.long x ((Qdc s l).subset hx)⟩
theorem KOk.put {ts:List Thg} {l:List (Str × Pt)} (h:KOk ts l) {s:Str} (hs:1<=s.length) {v:Pt} (hv:v ∉ l.map (·.2)) (ht:v∈pts ts):KOk ts (mput s v l):=by
 refine ⟨?_,QgN h.vals hv,fun x hx=>?_,fun x hx=>?_⟩
 ·rw [Qg5]
  split
  ·exact h.keys
  rename_i q
  rw [List.nodup_append]
  exact ⟨h.keys,by simp,by intro a ha b hb;simp at hb;subst hb;exact fun e=>q (e ▸ ha)⟩
 ·rcases Qeb hx with e|e
  ·subst e;exact ht
  exact h.some x e
 rcases Qeb hx with e|e
 ·subst e;exact hs
 exact h.long x e
structure DOk (N:Nat) (m:Dk):Prop where
 nm:m.nm=Qhk m.sf m.ch
 keys:∀ k,k<=m.ch.length->KOk m.ts (Qhk m.sf (m.ch.take k))
 chs:∀ k∈m.ch,k.t=none∨∃ p,k.t=pt p
 safe:∀ t∈m.ts,t.sf<=t.bs.length
 nts:m.ts.length<=N
 nch:m.ch.length<=N
 bytes:(m.ts.map (·.bs.length)).sum<=1000*N
theorem DOk.now {N:Nat} {m:Dk} (h:DOk N m):KOk m.ts m.nm:=by
 have:=h.keys m.ch.length (Nat.le_refl _)
 rw [List.take_length,← h.nm] at this
 exact this
theorem DOk.mono {N N':Nat} {m:Dk} (h:DOk N m) (hn:N<=N'):DOk N' m:=⟨h.nm,h.keys,h.chs,h.safe,by have:=h.nts;omega,by have:=h.nch;omega,by have:=h.bytes;omega⟩
theorem DOk.new (room:Int):DOk 0 ⟨room,[],[],[],[]⟩:=⟨rfl,fun k hk=>by simp [Qhk];exact KOk.nil _,by simp,by simp,Nat.le_refl _,Nat.le_refl _,by simp⟩
theorem QrE {ts:List Thg} {t:Thg} (h:t∈ts):t.bs.length<=(ts.map (·.bs.length)).sum:=by
 induction ts with
 | nil=>cases h
 | cons u ts ih =>
  simp only [List.map_cons,List.sum_cons]
  rcases List.mem_cons.1 h with e|e
  ·subst e;omega
  have:=ih e;omega
theorem DOk.len {N:Nat} {m:Dk} (h:DOk N m) {t:Thg} (ht:t∈m.ts):t.bs.length<=1000*N:=Nat.le_trans (QrE ht) h.bytes
theorem QkR {α:Type} {l:List α} {a:α} {k:Nat} (h:k<=l.length):(l++[a]).take k=l.take k:=by
 rw [List.take_append_of_le_length h]
theorem QeN (l:List (Str × Pt)) (cs:List Chg) (c:Chg):Qhk l (cs++[c])=doC (Qhk l cs) c:=by simp [Qhk]
theorem DOk.chg {N:Nat} {m:Dk} (h:DOk N m) {c:Chg} (hc:c.t=none∨∃ p,c.t=pt p) (hk:KOk m.ts (doC m.nm c)):DOk (N+1) (Qwf m c):=by
 refine ⟨?_,fun k hkl=>?_,fun k hk1=>?_,h.safe,by have:=h.nts;show m.ts.length<=N+1;omega,by have:=h.nch;show (m.ch++[c]).length<=N+1;simp;omega,by have:=h.bytes;show (m.ts.map (·.bs.length)).sum<=1000*(N+1);omega⟩
 ·show doC m.nm c=Qhk m.sf (m.ch++[c])
  rw [QeN,← h.nm]
 ·show KOk m.ts (Qhk m.sf ((m.ch++[c]).take k))
  have hkl':k<=m.ch.length+1:=by have:k<=(m.ch++[c]).length:=hkl;simpa using this
  by_cases q:k<=m.ch.length
  ·rw [QkR q];exact h.keys k q
  have:k=(m.ch++[c]).length:=by simp;omega
  rw [this,List.take_length,QeN,← h.nm];exact hk
 have:k∈m.ch++[c]:=hk1
 rcases List.mem_append.1 this with e|e
 ·exact h.chs k e
 simp at e;subst e;exact hc
theorem DOk.things {N:Nat} {m:Dk} {ts:List Thg} (h:DOk N m) (hp:pts ts=pts m.ts) (hs:∀ t∈ts,t.sf<=t.bs.length) (hb:(ts.map (·.bs.length)).sum<=1000*(N+1)):DOk (N+1) { m with ts:=ts }:=by
 have hl:ts.length=m.ts.length:=by have:=congrArg List.length hp;simpa [pts] using this
 exact ⟨h.nm,fun k hk=>(h.keys k hk).to (by intro x hx;show x∈pts ts;rw [hp];exact hx),h.chs,hs,by have:=h.nts;show ts.length<=N+1;omega,by have:=h.nch;show m.ch.length<=N+1;omega,hb⟩
theorem DOk.rem {N:Nat} {m:Dk} (h:DOk N m) (s:Str):DOk (N+1) (Qwf m ⟨s,[],none⟩):=h.chg (.inl rfl) (by unfold doC;simp;exact h.now.del s)
theorem Qn3 {l:List (Str × Pt)} {s:Str} {p:Nat}:doC l ⟨s,[],pt p⟩=mput s (pt p) l:=by unfold doC;simp
theorem DOk.newT {N:Nat} {m:Dk} (h:DOk N m) {s:Str} {p:Nat} {bs:List Int} (hs:1<=s.length) (hp:∀ t∈m.ts,t.p≠p) (hb:bs.length<=1000):DOk (N+1) (Qwe m s p bs):=by
 have hpts:pts (m.ts++[(⟨p,bs,0⟩:Thg)])=pts m.ts++[pt p]:=by simp [pts]
 have hno:pt p ∉ pts m.ts:=fun hx=>by
  obtain ⟨t,ht,he⟩:=List.mem_map.1 hx
  simp at he;exact hp t ht he
 have hto:∀ x∈pts m.ts,x∈pts (m.ts++[(⟨p,bs,0⟩:Thg)]):=fun x hx=>by rw [hpts];simp [hx]
 have hput:KOk (m.ts++[(⟨p,bs,0⟩:Thg)]) (doC m.nm ⟨s,[],pt p⟩):=by
  rw [Qn3]
  exact (h.now.to hto).put hs (fun hx=>by obtain ⟨y,hy,he⟩:=List.mem_map.1 hx;exact hno (he ▸ h.now.some y hy)) (by rw [hpts];simp)
 refine ⟨?_,fun k hkl=>?_,fun k hk1=>?_,fun t ht=>?_,?_,?_,?_⟩
 ·show doC m.nm ⟨s,[],pt p⟩=Qhk m.sf (m.ch++[(⟨s,[],pt p⟩:Chg)])
  rw [QeN,← h.nm]
 ·show KOk (m.ts++[(⟨p,bs,0⟩:Thg)]) (Qhk m.sf ((m.ch++[(⟨s,[],pt p⟩:Chg)]).take k))
  have hkl':k<=m.ch.length+1:=by have:k<=(m.ch++[(⟨s,[],pt p⟩:Chg)]).length:=hkl;simpa using this
  by_cases q:k<=m.ch.length
  ·rw [QkR q];exact (h.keys k q).to hto
  have:k=(m.ch++[(⟨s,[],pt p⟩:Chg)]).length:=by simp;omega
  rw [this,List.take_length,QeN,← h.nm];exact hput
 ·have:k∈m.ch++[(⟨s,[],pt p⟩:Chg)]:=hk1
  rcases List.mem_append.1 this with e|e
  ·exact h.chs k e
  rw [List.mem_singleton] at e;subst e;exact .inr ⟨p,rfl⟩
 ·have:t∈m.ts++[(⟨p,bs,0⟩:Thg)]:=ht
  rcases List.mem_append.1 this with e|e
  ·exact h.safe t e
  simp at e;subst e;simp
 ·have:=h.nts;show (m.ts++[(⟨p,bs,0⟩:Thg)]).length<=N+1;simp;omega
 ·have:=h.nch;show (m.ch++[(⟨s,[],pt p⟩:Chg)]).length<=N+1;simp;omega
 have:=h.bytes;show ((m.ts++[(⟨p,bs,0⟩:Thg)]).map (·.bs.length)).sum<=1000*(N+1);simp;omega
theorem Qpp {ts:List Thg} {i:Nat} {t t':Thg} (hi:ts[i]?=some t):((ts.set i t').map (·.bs.length)).sum+t.bs.length=(ts.map (·.bs.length)).sum+t'.bs.length:=by
 induction ts generalizing i with
 | nil=>simp at hi
 | cons u ts ih =>
  cases i with
  | zero=>simp at hi;subst hi;simp;omega
  | succ i=>have:=ih (i:=i) (by simpa using hi);simp at this ⊢;omega
theorem DOk.app {N:Nat} {m:Dk} (h:DOk N m) {i:Nat} {t:Thg} (hi:m.ts[i]?=some t) {bs:List Int} (hb:bs.length<=1000):DOk (N+1) { m with ts:=m.ts.set i { t with bs:=t.bs++bs } }:=by
 refine h.things (Qsx hi rfl) (fun u hu=>?_) ?_
 ·rcases List.mem_or_eq_of_mem_set hu with e|e
  ·exact h.safe u e
  subst e;have:=h.safe t (List.mem_of_getElem? hi);simp;omega
 have:=Qpp (t':={ t with bs:=t.bs++bs }) hi
 have:=h.bytes
 simp only [QQ7] at *
 omega
end Go.Vx
namespace Go.Vx
open Go.RowKit
def RdX (w:World) (v:Value) (k:Nat) (ls:List (List Value)):Prop:=Rd w v k ls∨(ls=[]/\∃ a,v = .slice (some a) 0 0)
section
variable {w w0:World} {M:Nat->Prop} {L:List Res} {v:Value} {k:Nat} {ls:List (List Value)}
theorem Rd.emp_own (h:Rd w v k []) (w':World):Rd w' v k []:=⟨h.len,h.small,h.shape,by simp,h.room⟩
theorem RdX.own (h:RdX w0 v k ls) (hs:Own w0 M w L) (hm:ls≠[]->¬M (bkS v)):RdX w v k ls:=by
 rcases h with h|h
 ·by_cases q:ls=[]
  ·subst q;exact .inl (h.emp_own w)
  exact .inl (h.own hs (hm q))
 exact .inr h
theorem RdX.own' (h:RdX w0 v k ls) (hs:Own w0 no w L):RdX w v k ls:=h.own hs (fun _ h=>h)
theorem RdX.pos (h:RdX w v k ls) (hp:ls.length≠0):Rd w v k ls:=by
 rcases h with h|h
 ·exact h
 exact absurd (by rw [h.1];rfl) hp
theorem RdX.isl (h:RdX w v k ls):∃ a c,v = .slice a ls.length c:=by
 rcases h with h|⟨h,a,rfl⟩
 ·exact h.len_eq
 subst h;exact ⟨_,_,rfl⟩
theorem RdX.sml {α:Type} {enc:α->List Value} {l:List α} (h:RdX w v k (l.map enc)):l.length<=9223372036854775807:=by
 rcases h with h|⟨h,_⟩
 ·exact h.sml
 have:l=[]:=by simpa using h
 subst this;simp
theorem RdX.old (h:RdX w v k ls) (hk:0<k) (hp:ls≠[]):bkS v<w.heap.size:=by
 have h1:=h.pos (by intro e;exact hp (List.eq_nil_of_length_eq_zero e))
 rcases h1.shape with ⟨_,e⟩|⟨b,o,c,rfl⟩
 ·exact absurd e hp
 cases ls with
 | nil=>exact absurd rfl hp
 | cons l ls =>
  have hl:=h1.len l (by simp)
  have h2:=h1.cell 0 0 l (l[0]'(by omega)) (by simp) (List.getElem?_eq_getElem _)
  exact World.block_lt_of_cell? w ⟨b,o+0*k+0,none⟩ h2
end
section
variable {P:Program} {ty:TypeId} {e:Operand->Value} {w:World} {K:Value->World->Prop} {w0:World} {M:Nat->Prop} {L:List Res}
theorem QbR {t el k n:Nat} {x:Operand} {v:Value} {ls:List (List Value)} (ht:Ud P t (.slice el)) (hr:RdX w v k ls) (hn:ls.length=n) (hx:e x=v) (h:K (.int .i64 n) w):opW P (.call { callee:=.builtin .len,args:=#[x],argTypes:=#[t] }) ty e w K:=by
 obtain ⟨a,c,rfl⟩:=hr.isl
 subst hn
 exact QkW ht hx h
theorem QoI {s d el:TypeId} {v:Value} {l:List Int} {x:Operand} (hs:P.underlying s=some (.slice el)) (hel:P.underlying el=some (.int .u8)) (hd:P.underlying d=some .string) (hr:RdX w v 1 (l.map (ic .u8))) (hx:e x=v) (h:K (sv (sOf l)) w):opW P (.convert s d x) ty e w K:=by
 rcases hr with hr|⟨hl,a,rfl⟩
 ·exact QbS hs hel hd hr hx h
 have:l=[]:=by simpa using hl
 subst this
 refine QaO (w':=w) ?_ h
 have key:(convert s d (.slice (some a) 0 0)).run P w = .ok (sv (sOf [])) w:=by
  rw [run_convert_bytes_string w s d el _ _ _ hs hel hd]
  simp [Conv.bytesToString,loadCells,loadCellsFrom]
  rfl
 simp only [execOp,hx,Sem.run_bind,key,Result.andThen_ok,Sem.run_pure]
end
structure Dact where
 kind:Int
 nm:Str
 ot:Str
 ba:Option Addr
 bc:Nat
 bs:List Int
 chg:Int
 ca:Option Addr
 cc:Nat
 cuts:List Int
 num:Int
instance:Inhabited Dact:=⟨⟨0,[],[],none,0,[],0,none,0,[],0⟩⟩
def acc (x:Dact):List Value:=[.int .u8 x.kind,sv x.nm,sv x.ot,.slice x.ba x.bs.length x.bc,.int .u8 x.chg,.slice x.ca x.cuts.length x.cc,.int .i64 x.num]
structure ActOk (w:World) (x:Dact):Prop where
 kind:0<=x.kind/\x.kind<256
 rb:RdX w (.slice x.ba x.bs.length x.bc) 1 (x.bs.map (ic .u8))
 bs:∀ y∈x.bs,0<=y/\y<256
 chg:0<=x.chg/\x.chg<256
 rc:RdX w (.slice x.ca x.cuts.length x.cc) 1 (x.cuts.map (ic .u8))
 cuts:∀ y∈x.cuts,0<=y/\y<256
 num:-9223372036854775808<=x.num/\x.num<=9223372036854775807
theorem ActOk.own' {w0 w:World} {L:List Res} {x:Dact} (h:ActOk w0 x) (hs:Own w0 no w L):ActOk w x:=⟨h.kind,h.rb.own' hs,h.bs,h.chg,h.rc.own' hs,h.cuts,h.num⟩
end Go.Vx
namespace Go.Vx
open Go.RowKit
def Qt8:List Value:=[.int .i64 0,.slice none 0 0,.map none,.map none,.slice none 0 0,.bool false,.int .i64 0]
def Nob (w:World) (v:Value):Prop:=v = .pointer none∨∃ b,v = .pointer (some ⟨b,0,none⟩)/\Qa8 w b Qt8
theorem Nob.own' {w0 w:World} {L:List Res} {v:Value} (h:Nob w0 v) (hs:Own w0 no w L):Nob w v:=by
 rcases h with h|⟨b,h,hc⟩
 ·exact .inl h
 exact .inr ⟨b,h,hc.own' hs⟩
structure Qs (N:Nat) (s:Str) (p:Nat) (bs:List Int) (sf:Nat) (room:Int) (m:Dk):Prop where
 ok:DOk N m
 get:mget s m.nm=some (pt p)
 at_:∃ i:Nat,m.ts[i]?=some ⟨p,bs,sf⟩
 room:m.room=room
structure Qt (N:Nat) (s:Str) (p:Nat) (bs:List Int) (sf:Nat) (room:Int) (m:Dk):Prop where
 q:Qs N s p bs sf room m
 safe:mget s m.sf=some (pt p)
 ch:∀ k∈m.ch,k.fr=[]/\k.to≠s
theorem Qs.i {N:Nat} {s:Str} {p:Nat} {bs:List Int} {sf:Nat} {room:Int} {m:Dk} (h:Qs N s p bs sf room m):∃ i:Nat,m.ts[i]?=some ⟨p,bs,sf⟩:=h.at_
theorem Qt.app {N:Nat} {s:Str} {p:Nat} {bs cs:List Int} {sf:Nat} {room:Int} {m:Dk} (h:Qt N s p bs sf room m) {i:Nat} (hi:m.ts[i]?=some ⟨p,bs,sf⟩) (hc:cs.length<=1000):Qt (N+1) s p (bs++cs) sf room { m with ts:=m.ts.set i ⟨p,bs++cs,sf⟩ } :=
 ⟨⟨h.q.ok.app hi hc,h.q.get,⟨i,by show (m.ts.set i _)[i]?=_;rw [List.getElem?_set_self (Qav hi)]⟩,h.q.room⟩,h.safe,h.ch⟩
theorem Qt.new {N:Nat} {s s2:Str} {p p2:Nat} {bs cs:List Int} {sf:Nat} {room:Int} {m:Dk} (h:Qt N s p bs sf room m) (hs:1<=s2.length) (hne:s2≠s) (hp:∀ t∈m.ts,t.p≠p2) (hc:cs.length<=1000):Qt (N+1) s p bs sf room (Qwe m s2 p2 cs):=by
 obtain ⟨i,hi⟩:=h.q.at_
 refine ⟨⟨h.q.ok.newT hs hp hc,?_,⟨i,?_⟩,h.q.room⟩,h.safe,fun k hk=>?_⟩
 ·show mget s (doC m.nm ⟨s2,[],pt p2⟩)=_
  rw [Qn3,QgT,if_neg (fun e=>hne e.symm)];exact h.q.get
 ·show (m.ts++[_])[i]?=_
  rw [List.getElem?_append_left (Qav hi)];exact hi
 have:k∈m.ch++[(⟨s2,[],pt p2⟩:Chg)]:=hk
 rcases List.mem_append.1 this with e|e
 ·exact h.ch k e
 rw [List.mem_singleton] at e;subst e;exact ⟨rfl,hne⟩
theorem Qt.other {N:Nat} {s s2:Str} {p:Nat} {bs cs:List Int} {sf:Nat} {room:Int} {m:Dk} (h:Qt N s p bs sf room m) (hne:s2≠s) {j:Nat} {t:Thg} (hj:m.ts[j]?=some t) (hg:mget s2 m.nm=some (pt t.p)) (hc:cs.length<=1000):Qt (N+1) s p bs sf room { m with ts:=m.ts.set j { t with bs:=t.bs++cs } }:=by
 obtain ⟨i,hi⟩:=h.q.at_
 have hij:j≠i:=by
  intro e
  subst e
  rw [hi] at hj;cases hj
  have h1:=Qfo hg
  have h2:=Qfo h.q.get
  obtain ⟨a,ha⟩:=List.mem_iff_getElem?.1 h1
  obtain ⟨b,hb⟩:=List.mem_iff_getElem?.1 h2
  have hv:=h.q.ok.now.vals
  unfold List.Nodup at hv
  rw [List.pairwise_iff_getElem] at hv
  have hal:=Qav ha
  have hbl:=Qav hb
  rw [List.getElem?_eq_getElem hal] at ha
  rw [List.getElem?_eq_getElem hbl] at hb
  rcases Nat.lt_trichotomy a b with q|q|q
  ·exact hv a b (by simpa using hal) (by simpa using hbl) q (by simp only [List.getElem_map];rw [Option.some.inj ha,Option.some.inj hb])
  ·subst q
   have:=(Option.some.inj ha).symm.trans (Option.some.inj hb)
   simp at this
   exact hne this
  exact hv b a (by simpa using hbl) (by simpa using hal) q (by simp only [List.getElem_map];rw [Option.some.inj ha,Option.some.inj hb])
 exact ⟨⟨h.q.ok.app hj hc,h.q.get,⟨i,by show (m.ts.set j _)[i]?=_;rw [List.getElem?_set_ne hij];exact hi⟩,h.q.room⟩,h.safe,h.ch⟩
end Go.Vx
namespace Go.Vx
open Go.RowKit Go.ChangeShapes Go.WideShapes Go.ChangeAt
theorem QvX {P:Program} {t td tv:TypeId} {f0 f1 f2 f3 f4 f5 f6:Field} (ht:P.underlying t=some (.struct #[f0,f1,f2,f3,f4,f5,f6]))
  (hoff:[f0.offset,f1.offset,f2.offset,f3.offset,f4.offset,f5.offset,f6.offset]=[0,2,3,4,5,6,7])
  (hty:[f0.type,f6.type]=[td,tv])
  (hD:Qfp P td dc Qfk) (hV:Qfp P tv vc Qbw)
  (u1:P.underlying f1.type=some (.int .u8)) (u2:P.underlying f2.type=some (.int .u16)) (u3:P.underlying f3.type=some (.int .u16)) (u4:P.underlying f4.type=some (.int .u16)) (u5:P.underlying f5.type=some (.int .u32))
  (hc:[P.cellsOf f0.type,P.cellsOf f1.type,P.cellsOf f2.type,P.cellsOf f3.type,P.cellsOf f4.type,P.cellsOf f5.type,P.cellsOf f6.type]=[2,1,1,1,1,1,16]) (hct:P.cellsOf t=23):Qfp P t oc QbK:=by
 intro H enc w base spare held fuel cs x h
 obtain ⟨xs,m,_,_,hl,hxl,hx⟩:=DataW.trod_struct ht h
 rw [hct] at hl
 have g0:=hx 0 f0 rfl
 have g1:=hx 1 f1 rfl
 have g2:=hx 2 f2 rfl
 have g3:=hx 3 f3 rfl
 have g4:=hx 4 f4 rfl
 have g5:=hx 5 f5 rfl
 have g6:=hx 6 f6 rfl
 have hx2:xs.length=7:=by simpa using hxl
 simp only [List.cons.injEq,and_true] at hoff hty hc
 obtain ⟨o0,o1,o2,o3,o4,o5,o6⟩:=hoff
 obtain ⟨c0,c1,c2,c3,c4,c5,c6⟩:=hc
 obtain ⟨t0,t6⟩:=hty
 rw [List.getElem?_eq_getElem (by omega)] at g0 g1 g2 g3 g4 g5 g6
 rw [o0,c0,t0] at g0
 rw [o1,c1] at g1
 rw [o2,c2] at g2
 rw [o3,c3] at g3
 rw [o4,c4] at g4
 rw [o5,c5] at g5
 rw [o6,c6,t6] at g6
 obtain ⟨d,hd,e0⟩:=hD _ _ _ _ _ _ _ _ _ g0
 obtain ⟨k,hk,e1⟩:=QeC u1 _ _ _ _ _ _ _ _ _ g1
 obtain ⟨c,hc',e2⟩:=QeC u2 _ _ _ _ _ _ _ _ _ g2
 obtain ⟨i,hi,e3⟩:=QeC u3 _ _ _ _ _ _ _ _ _ g3
 obtain ⟨q,hq,e4⟩:=QeC u4 _ _ _ _ _ _ _ _ _ g4
 obtain ⟨tk,htk,e5⟩:=QeC u5 _ _ _ _ _ _ _ _ _ g5
 obtain ⟨v,hv,e6⟩:=hV _ _ _ _ _ _ _ _ _ g6
 refine ⟨⟨d,k,c,i,q,tk,v⟩,⟨hd,QiY hk,Qke hc',Qke hi,Qke hq,QkC htk,hv⟩,?_⟩
 match cs,hl with
 | x0 :: x1 :: x2 :: x3 :: x4 :: x5 :: x6 :: R,hR =>
  have e6':R=vc v:=by
   simp only [List.drop_succ_cons,List.drop_zero] at e6
   rw [List.take_of_length_le (by simp at hR;omega)] at e6;exact e6
  simp [ic,dc] at e0 e1 e2 e3 e4 e5
  rw [e0.1,e0.2,e1,e2,e3,e4,e5,e6']
  rfl
end Go.Vx
namespace Go.Vx
structure Pst where
 base:Sta
 ops:List Opn
 known:Vec
structure OpsC (kn:Vec) (l:List Opn):Prop where
 ok:∀ o∈l,QaI o=true
 fr:∀ o∈l,QeM kn o.dot=false
 nd:(l.map (·.dot)).Nodup
end Go.Vx
namespace Go.Vx
open Go.RowKit
def Kept (w:World) (S:Nat->Prop) (R:Res):Prop:=∃ T,R.holds w T/\∀ b,S b->¬T b
section
variable {w w0 w1:World} {S M:Nat->Prop} {L L1:List Res}
theorem Rd.ownE {v:Value} {k:Nat} {ls:List (List Value)} (h:Rd w0 v k ls) (hs:Own w0 M w L) (hm:ls≠[]->¬M (bkS v)):Rd w v k ls:=by
 by_cases q:ls=[]
 ·subst q;exact h.emp_own w
 exact h.own hs (hm q)
theorem Kept.cells {b T:Nat} {cs:List Value} (h:Kept w S (blk b cs T)) (hs:Own w S w1 L1):Qa8 w1 b cs:=by
 obtain ⟨T',hk,hd⟩:=h
 have hb:¬S b:=fun hS=>hd b hS hk.1
 have h0:Qa8 w b cs:=fun j u hj=>by
  rw [cell_of_row w b j _ T _ hk.2];simpa using hj
 exact h0.own hs hb
theorem Kept.rd {v:Value} {ls:List (List Value)} {E k:Nat} (h:Kept w S (row v ls E k)) (hs:Own w S w1 L1):Rd w1 v k ls:=by
 obtain ⟨T',hk,hd⟩:=h
 refine (Rd.of_row hk).ownE hs fun hne hS=>?_
 obtain ⟨_,hown,hT⟩:=hk
 rcases hown.2 with ⟨hv,hn⟩|⟨g,cap,cur,hv,_⟩
 ·exact hne (List.eq_nil_of_length_eq_zero (by simpa using hn))
 subst hv;exact hd g hS (hT g rfl)
end
theorem QrH {α:Type} {p:α->Bool} {l:List α}:decide (0<=QoL p l)=l.any p:=by
 unfold QoL
 cases l.any p with
 | true=>rw [if_pos rfl];exact QQ3 (by omega)
 | false=>rw [if_neg (by decide)];rfl
end Go.Vx
namespace Go.Vx
open Go.RowKit
section
variable {P:Program} {ty:TypeId} {e:Operand->Value} {w:World} {K:Value->World->Prop} {w0:World} {M:Nat->Prop} {L:List Res}
theorem QsB {t tn E k bytes cnt:Nat} {kn:IntKind} {x y:Operand} {zl:List Value} {ls':List (List Value)} (hE:El P t E k bytes) (hn:P.underlying tn=some (.int kn)) (hz:Zv P E (.agg zl.toArray)∨∃ v,zl=[v]/\Zv P E v/\v.cells = #[v]) (hs:Own w0 M w L) (hx:e x = .slice none 0 0) (hy:e y = .int .i64 (cnt:Int))
  (hc:0<cnt) (hz1:∀ u∈zl,u.oneCell'=true) (hzk:zl.length=k) (hb:cnt*(bytes+1)<=140737488355328) (hl:List.replicate cnt zl=ls') (n':Nat) (hn':ls'.length=n') (h:∀ a c w',Own w0 M w' (L++[row (.slice a n' c) ls' E k])->K (.slice a n' c) w') :
  opW P (.call { callee:=.builtin .append,args:=#[x,y],argTypes:=#[t,tn] }) ty e w K:=by
 subst hl
 subst hn'
 obtain ⟨ht,ie,z,hie,hzz,rfl,rfl,hzs,hk⟩:=hE
 have hzc:z.cells=zl.toArray:=by
  have hval:∀ V,Zv P E V->V=z:=fun V hV=>by
   have:=hV w
   simp [zeroValue,typeInfo,hie,hzz,Sem.run] at this
   exact this.symm
  rcases hz with hz|⟨v,e1,hz,hc⟩
  ·rw [← hval _ hz];rfl
  rw [← hval _ hz,hc,e1]
 have hbn:cnt<=140737488355328:=Nat.le_trans (Nat.le_mul_of_pos_right _ (by omega)) hb
 have hbb:cnt*ie.bytes<=140737488355328:=Nat.le_trans (Nat.mul_le_mul_left _ (by omega)) hb
 have hw:IntKind.i64.wrap (cnt:Int)=cnt:=by rw [IntKind.wrap_i64];omega
 have hneg:¬((cnt:Int)<0):=by omega
 have hcz:cnt≠0:=by omega
 have hns:¬(cnt*ie.size=0):=Nat.mul_ne_zero hcz (by omega)
 have hneed:¬(0+cnt<=0):=by omega
 have h63:¬(9223372036854775807<((0:Int)+(cnt:Int))):=by omega
 have h48:=growslice_fits (show 0<0+cnt by omega) (show (0+cnt)*ie.bytes<=140737488355328 by simpa using hbb)
 have h48':¬(281474976710656<Builtin.nextslicecap (0+cnt) 0*ie.bytes):=by omega
 have hcb:cnt*ie.bytes<=140737488355328:=hbb
 have h48i:¬(281474976710656<(cnt:Int)*(ie.bytes:Int)):=by rw [← Int.natCast_mul];omega
 have h63':¬(9223372036854775807<(cnt:Int)):=by omega
 have h48'':¬(281474976710656<Builtin.nextslicecap cnt 0*ie.bytes):=by rw [Nat.zero_add] at h48';exact h48'
 have hrun:(Builtin.append_ #[t,tn] ty #[.slice none 0 0,.int .i64 cnt]).run P w =
   .ok (.slice (some ⟨w.heap.size,0,none⟩) (0+cnt) (grownCap w (0+cnt) 0 E)) (w.drew.alloc (.cells (#[]++Builtin.zeroCells z.cells cnt++Builtin.zeroCells z.cells (grownCap w (0+cnt) 0 E-(0+cnt))) E)):=by
  simp [Builtin.append_,run_underlying ht,run_underlying hn,sizeOf,typeInfo,zeroValue,hie,hzz,asInt,asIntOf,hw,hcz,hneg,hns,hneed,h63,h48',h48i,h63',h48'',Question.forced,run_firstCells_none,newRow,grownCap]
 have hcells:#[]++Builtin.zeroCells z.cells cnt=(List.replicate cnt zl).flatten.toArray:=by
  rw [hzc,Qhh];simp
 have h5:=QfX (w:=w.drew) (xs:=(List.replicate cnt zl).flatten) (rest:=Builtin.zeroCells z.cells (grownCap w (0+cnt) 0 E-(0+cnt))) (ls:=List.replicate cnt zl) (e:=E) (k:=ie.size) (cap:=grownCap w (0+cnt) 0 E)
  (fun l hl=>by rw [List.eq_of_mem_replicate hl];exact hzk) (fun l hl=>by rw [List.eq_of_mem_replicate hl];exact hz1) rfl
  (by rw [List.length_replicate];have:=grownCap_ge w (0+cnt) 0 E;omega) (grownCap_le_maxLen w _ _ _ (by simp only [maxLen];omega)) (by rw [size_zeroCells,hzs,List.length_replicate,Nat.zero_add])
 have hnn:(List.replicate cnt zl).length=0+cnt:=by rw [List.length_replicate];omega
 refine QaO (w':=w.drew.alloc (.cells ((List.replicate cnt zl).flatten.toArray++Builtin.zeroCells z.cells (grownCap w (0+cnt) 0 E-(0+cnt))) E)) ?_ (h (some ⟨w.heap.size,0,none⟩) (grownCap w (0+cnt) 0 E) _ ?_)
 ·rw [BigFrame.execOp_builtin]
  simp only [List.map_toArray,List.map_cons,List.map_nil,hx,hy,BigFrame.builtin_append,Sem.run_bind,hrun,Result.andThen_ok,Sem.run_pure,hnn,hcells]
 exact hs.drew.new _ _ (by simpa using h5)
end
structure Bsl where
 a:Option Addr
 c:Nat
 l:Bs
def bse (x:Bsl):List Value:=[.slice x.a x.l.length x.c]
theorem Qny (x:Bsl):∀ u∈bse x,u.oneCell'=true:=by
 intro u hu;simp only [bse,List.mem_singleton] at hu;subst hu;rfl
def bslz:Bsl:=⟨none,0,[]⟩
instance:Inhabited Bsl:=⟨bslz⟩
def RdB (w:World) (S:Nat->Prop) (x:Bsl):Prop:=Rd w (.slice x.a x.l.length x.c) 1 (x.l.map (ic .u8))/\(x.l≠[]->¬S (bkS (.slice x.a x.l.length x.c)))
theorem RdB.own {w w1:World} {S:Nat->Prop} {L:List Res} {x:Bsl} (h:RdB w S x) (hs:Own w S w1 L):Rd w1 (.slice x.a x.l.length x.c) 1 (x.l.map (ic .u8)) :=
 h.1.ownE hs fun hne=>h.2 fun e=>hne (by rw [e];rfl)
theorem RdB.no {w:World} {x:Bsl} (h:Rd w (.slice x.a x.l.length x.c) 1 (x.l.map (ic .u8))):RdB w no x:=⟨h,fun _ h=>h⟩
def Qcr (l:List Bsl):Bs:=l.flatMap (·.l)
theorem Qow (l:List Bsl) (x:Bsl):Qcr (l++[x])=Qcr l++x.l:=by simp [Qcr]
theorem QeK {l:List Bsl} {k:Nat} (h:k<l.length):Qcr (l.take (k+1))=Qcr (l.take k)++(gd l k).l:=by
 rw [QdY h,Qow]
theorem QgK {l:List Bsl} {k:Nat}:(Qcr (l.take k)).length<=(Qcr l).length:=by
 have:Qcr l=Qcr (l.take k)++Qcr (l.drop k):=by
  unfold Qcr
  rw [← List.flatMap_append,List.take_append_drop]
 rw [this,QQ7];omega
end Go.Vx
namespace Go.Vx
abbrev L64 (l:List Nat):Prop:=∀ n∈l,n<18446744073709551616
def QbA (l:List Nat):Bs:=l.flatMap Qan
theorem QhE (n:Nat) (l:List Nat):QbA (n :: l)=Qan n++QbA l:=rfl
theorem Qed (l:List Nat) (n:Nat):QbA (l++[n])=QbA l++Qan n:=by simp [QbA]
theorem Qlx (l:List Nat):QaZ (QbA l):=fun c hc=>by
 obtain ⟨n,_,h⟩:=List.mem_flatMap.1 hc
 exact Qc6 n c h
def QaL:Nat->Rdr->List Nat × Rdr
 | 0,r=>([],r)
 | k+1,r=>((QaL k r).1++[(Qaj (QaL k r).2).1],(Qaj (QaL k r).2).2.2)
theorem QeU:∀ (k:Nat) (r:Rdr),(QaL k r).1.length=k
 | 0,_=>rfl
 | k+1,r=>by simp [QaL,QeU k r]
theorem Qdi {r:Rdr} (ok:QaZ r.l):∀ k,QaZ (QaL k r).2.l
 | 0=>ok
 | k+1=>Qbu (Qdi ok k)
theorem QhT {r:Rdr} (ok:QaZ r.l):∀ k,(QaL k r).2.e=0->r.e=0/\r.l=QbA (QaL k r).1++(QaL k r).2.l/\L64 (QaL k r).1
 | 0,h=>⟨h,rfl,fun n hn=>by cases hn⟩
 | k+1,h=>by
  obtain ⟨h1,_,h3,h4⟩:=Qdr (Qdi ok k) h
  obtain ⟨a,b,c⟩:=QhT ok k h1
  refine ⟨a,?_,?_⟩
  ·show r.l=QbA (_++[_])++_
   rw [Qed,List.append_assoc]
   exact b.trans (congrArg _ h3)
  intro n hn
  rcases List.mem_append.1 hn with h|h
  ·exact c n h
  simp at h;subst h;exact h4
theorem Qd0:∀ (l:List Nat) (m:Bs),L64 l->QaL l.length ⟨0,QbA l++m⟩=(l,⟨0,m⟩):=by
 have key:∀ (l a:List Nat) (m:Bs) (r:Rdr),L64 l->QaL a.length r=(a,⟨0,QbA l++m⟩)->QaL (a++l).length r=(a++l,⟨0,m⟩):=by
  intro l
  induction l with
  | nil=>intro a m r _ h;simpa [QbA] using h
  | cons n l ih =>
   intro a m r h64 h
   have h1:QaL (a++[n]).length r=(a++[n],⟨0,QbA l++m⟩):=by
    rw [QQ7,List.length_singleton]
    show ((QaL a.length r).1++[_],_)=_
    rw [h,QhE,List.append_assoc,QcW (h64 n List.mem_cons_self)]
   have:=ih (a++[n]) m r (fun x hx=>h64 x (List.mem_cons_of_mem _ hx)) h1
   simpa using this
 intro l m h
 simpa using key l [] m ⟨0,QbA l++m⟩ h rfl
theorem Qfq {l:List Nat} {m:Bs} {k:Nat} (h:L64 l) (hk:k<=l.length):QaL k ⟨0,QbA l++m⟩=(l.take k,⟨0,QbA (l.drop k)++m⟩):=by
 have h1:QbA l++m=QbA (l.take k)++(QbA (l.drop k)++m):=by
  rw [← List.append_assoc]
  congr 1
  unfold QbA
  rw [← List.flatMap_append,List.take_append_drop]
 rw [h1]
 have h2:=Qd0 (l.take k) (QbA (l.drop k)++m) (fun n hn=>h n (List.mem_of_mem_take hn))
 rw [List.length_take,Nat.min_eq_left hk] at h2
 exact h2
def Qde (v:Vec):Nat->Nat
 | 0=>0
 | n+1=>if vat v n=0 then Qde v n else n+1
def vlen (v:Vec):Nat:=Qde v 16
theorem QlN (v:Vec):∀ n,Qde v n<=n
 | 0=>Nat.le_refl _
 | n+1=>by
  unfold Qde
  split
  ·exact Nat.le_succ_of_le (QlN v n)
  exact Nat.le_refl _
theorem QcI {v:Vec}:∀ {n i:Nat},Qde v n<=i->i<n->vat v i=0
 | 0,_,_,h=>absurd h (Nat.not_lt_zero _)
 | n+1,i,h,hi=>by
  unfold Qde at h
  split at h
  ·rename_i h0
   by_cases e:i=n
   ·rw [e];exact h0
   exact QcI h (by omega)
  omega
theorem Qhn {v:Vec}:∀ {n:Nat},Qde v n≠0->vat v (Qde v n-1)≠0
 | 0,h=>absurd rfl h
 | n+1,h=>by
  unfold Qde at h ⊢
  split
  ·rename_i h0
   rw [if_pos h0] at h
   exact Qhn h
  rename_i h0;exact h0
theorem Qlq {v:Vec} {k:Nat}:∀ {n:Nat},k<=n->(∀ i,k<=i->i<n->vat v i=0)->(k≠0->vat v (k-1)≠0)->Qde v n=k
 | 0,hk,_,_=>by simp [Qde];omega
 | n+1,hk,h,hl=>by
  unfold Qde
  by_cases e:k=n+1
  ·subst e
   have hl:=hl (by omega)
   rw [Nat.add_sub_cancel] at hl
   rw [if_neg hl]
  rw [if_pos (h n (by omega) (by omega))]
  exact Qlq (by omega) (fun i h1 h2=>h i h1 (by omega)) hl
theorem Qiq (v:Vec):vlen v<=16:=QlN v 16
def vnums (v:Vec) (k:Nat):List Nat:=(List.range k).map fun i=>(vat v i).toNat
theorem Qci (v:Vec) (k:Nat):(vnums v k).length=k:=by simp [vnums]
theorem Qho (v:Vec) (k:Nat):vnums v (k+1)=vnums v k++[(vat v k).toNat]:=by simp [vnums,List.range_succ]
def QaF (v:Vec):Bs:=Qan (vlen v)++QbA (vnums v (vlen v))
theorem Qkl (v:Vec):QaZ (QaF v):=(Qc6 _).app (Qlx _)
theorem Qgi {v:Vec} (h:Qbw v) (k:Nat):∀ n∈vnums v k,n<4294967296:=by
 intro n hn
 simp only [vnums,List.mem_map] at hn
 obtain ⟨i,_,rfl⟩:=hn
 have:=QfI h i
 omega
theorem Qd7 {v:Vec} (h:Qbw v) (k:Nat):L64 (vnums v k):=fun n hn=>by have:=Qgi h k n hn;omega
theorem Ql9 {l:List Nat} {i d:Nat} (h:i<l.length):l.getD i d=l[i]:=by simp [List.getD_eq_getElem?_getD,h]
theorem QmQ {l:List Nat} {i d:Nat} (h:l.length<=i):l.getD i d=d:=by simp [List.getD_eq_getElem?_getD,h]
theorem QuA {l m:List Nat} {i d:Nat} (h:i<l.length):(l++m).getD i d=l.getD i d:=by simp [List.getD_eq_getElem?_getD,List.getElem?_append_left h]
def QgO (l:List Nat):Vec:=fun i=>((l.getD i.val 0:Nat):Int)
theorem QeQ {l:List Nat} {i:Nat} (h:i<16):vat (QgO l) i=((l.getD i 0:Nat):Int):=by
 unfold vat;rw [dif_pos h];rfl
theorem QkU:QgO []=vzero:=by funext i;simp [QgO,vzero]
theorem Qod (l:List Nat) (n:Nat):vset (QgO l) l.length (n:Int)=QgO (l++[n]):=by
 funext i
 unfold vset QgO
 by_cases h:i.val=l.length
 ·simp [h]
 simp only [h,if_false]
 rcases Nat.lt_or_ge i.val l.length with h1|h1
 ·rw [QuA h1]
 rw [QmQ (by omega),QmQ (by simp;omega)]
theorem Qkw {l:List Nat} (h:∀ n∈l,n<4294967296):Qbw (QgO l):=by
 intro i
 unfold QgO
 have:l.getD i.val 0<4294967296:=by
  rcases Nat.lt_or_ge i.val l.length with h1|h1
  ·rw [Ql9 h1];exact h _ (List.getElem_mem h1)
  rw [QmQ h1];omega
 omega
theorem Qqs {u v:Vec} (h:∀ i,i<16->vat u i=vat v i):u=v:=by
 funext i
 have:=h i.val i.isLt
 unfold vat at this
 rw [dif_pos i.isLt,dif_pos i.isLt] at this
 exact this
theorem Qd8 {v:Vec} (h:Qbw v) {k:Nat} (hz:∀ i,k<=i->i<16->vat v i=0):QgO (vnums v k)=v:=by
 refine Qqs fun i hi=>?_
 rw [QeQ hi]
 have h0:=QfI h i
 by_cases hk:i<k
 ·rw [Ql9 (by rw [Qci];exact hk)]
  simp only [vnums,List.getElem_map,List.getElem_range]
  omega
 rw [QmQ (by rw [Qci];omega),hz i (by omega) hi];rfl
theorem Qqb {l:List Nat} (hl:l.length<=16) (hn:l≠[]->l.getD (l.length-1) 0≠0):QaF (QgO l)=Qan l.length++QbA l:=by
 have h1:vlen (QgO l)=l.length:=by
  refine Qlq hl (fun i h1 h2=>?_) (fun h=>?_)
  ·rw [QeQ h2,QmQ h1];rfl
  rw [QeQ (by omega)]
  have:=hn (fun e=>h (by rw [e];rfl))
  omega
 unfold QaF
 rw [h1]
 congr 2
 refine List.ext_getElem (by rw [Qci]) fun i h2 h3=>?_
 simp only [vnums,List.getElem_map,List.getElem_range]
 rw [QeQ (by omega),Ql9 h3]
 omega
theorem QcM {v:Vec} (h:Qbw v) (m:Bs):Qaj ⟨0,QaF v++m⟩=(vlen v,0,⟨0,QbA (vnums v (vlen v))++m⟩):=by
 unfold QaF
 rw [List.append_assoc,QcW (by have:=Qiq v;omega)]
theorem Qd4 {u v:Vec} (hu:Qbw u) (hv:Qbw v) (h:QaF u=QaF v):u=v:=by
 have h1:=QcM hu []
 rw [h,QcM hv []] at h1
 simp only [Prod.mk.injEq,Rdr.mk.injEq,true_and,List.append_nil] at h1
 obtain ⟨h1,h2⟩:=h1
 have h3:=Qd0 (vnums u (vlen u)) [] (Qd7 hu _)
 have h4:=Qd0 (vnums v (vlen v)) [] (Qd7 hv _)
 rw [Qci,List.append_nil] at h3 h4
 rw [h2,h1,h3] at h4
 rw [← h1] at h4
 have h5:vnums u (vlen u)=vnums v (vlen v):=by
  have:=(Prod.mk.inj h4).1
  rw [h1] at this
  rw [h1];exact this
 have q1:=Qd8 hu (k:=vlen u) (fun i a b=>QcI (n:=16) a b)
 have q2:=Qd8 hv (k:=vlen v) (fun i a b=>QcI (n:=16) a b)
 rw [← q1,← q2,h5]
def QcA (b:Bs) (v:Vec) (e:Nat):Prop:=(e=0/\Qbw v/\b=QaF v)∨(e=5/\v=vzero/\∀ u,Qbw u->b≠QaF u)
theorem QcA.uniq {b:Bs} {u v:Vec} {e f:Nat} (h:QcA b u e) (h':QcA b v f):u=v/\e=f:=by
 rcases h with ⟨rfl,h1,h2⟩|⟨rfl,rfl,h2⟩<;>rcases h' with ⟨rfl,h3,h4⟩|⟨rfl,rfl,h4⟩
 ·exact ⟨Qd4 h1 h3 (h2.symm.trans h4),rfl⟩
 ·exact absurd h2 (h4 u h1)
 ·exact absurd h4 (h2 v h3)
 exact ⟨rfl,rfl⟩
section
variable {b:Bs}
theorem QiH (h:(Qaj ⟨0,b⟩).2.1≠0∨16<(Qaj ⟨0,b⟩).1):QcA b vzero 5:=by
 refine .inr ⟨rfl,rfl,fun u hu e=>?_⟩
 have h1:=QcM hu []
 rw [List.append_nil,← e] at h1
 rw [h1] at h
 have:=Qiq u
 simp at h
 omega
theorem Qnw {k:Nat} (h16:(Qaj ⟨0,b⟩).1<=16) (hk:k<(Qaj ⟨0,b⟩).1) (hx:4294967295<(Qaj (QaL k (Qaj ⟨0,b⟩).2.2).2).1):QcA b vzero 5:=by
 refine .inr ⟨rfl,rfl,fun u hu e=>?_⟩
 have h1:=QcM hu []
 rw [List.append_nil,← e,List.append_nil] at h1
 rw [h1] at hx hk
 simp only at hx hk
 have h2:=Qfq (k:=k+1) (m:=[]) (Qd7 hu (vlen u)) (by rw [Qci];omega)
 rw [List.append_nil] at h2
 have h3:(QaL (k+1) ⟨0,QbA (vnums u (vlen u))⟩).1=(vnums u (vlen u)).take (k+1):=by rw [h2]
 have h4:(Qaj (QaL k ⟨0,QbA (vnums u (vlen u))⟩).2).1∈(vnums u (vlen u)).take (k+1):=by
  rw [← h3];simp [QaL]
 have:=Qgi hu _ _ (List.mem_of_mem_take h4)
 omega
theorem Qp8 (ok:QaZ b) (he:(Qaj ⟨0,b⟩).2.1=0) (h16:(Qaj ⟨0,b⟩).1<=16) (hlt:∀ n∈(QaL (Qaj ⟨0,b⟩).1 (Qaj ⟨0,b⟩).2.2).1,n<4294967296) :
  (QaU (QaL (Qaj ⟨0,b⟩).1 (Qaj ⟨0,b⟩).2.2).2=true/\(0<(Qaj ⟨0,b⟩).1->vat (QgO (QaL (Qaj ⟨0,b⟩).1 (Qaj ⟨0,b⟩).2.2).1) ((Qaj ⟨0,b⟩).1-1)≠0)->QcA b (QgO (QaL (Qaj ⟨0,b⟩).1 (Qaj ⟨0,b⟩).2.2).1) 0)/\(¬(QaU (QaL (Qaj ⟨0,b⟩).1 (Qaj ⟨0,b⟩).2.2).2=true/\(0<(Qaj ⟨0,b⟩).1->vat (QgO (QaL (Qaj ⟨0,b⟩).1 (Qaj ⟨0,b⟩).2.2).1) ((Qaj ⟨0,b⟩).1-1)≠0))->QcA b vzero 5):=by
 have hl:=QeU (Qaj ⟨0,b⟩).1 (Qaj ⟨0,b⟩).2.2
 refine ⟨fun h=>?_,fun h=>?_⟩
 ·obtain ⟨h1,h2⟩:=h
  obtain ⟨d1,d2⟩:=Qdb.1 h1
  have okb:QaZ (Qaj ⟨0,b⟩).2.2.l:=Qbu (r:=⟨0,b⟩) ok
  obtain ⟨a1,a2,_⟩:=QhT okb _ d1
  obtain ⟨_,_,c3,_⟩:=Qdr (r:=⟨0,b⟩) ok a1
  refine .inl ⟨rfl,Qkw hlt,?_⟩
  rw [Qqb (by omega) (fun hne=>?_),hl]
  ·rw [d2,List.append_nil] at a2
   rw [← a2]
   exact c3
  rw [hl]
  have hp:0<(Qaj ⟨0,b⟩).1:=by
   rcases Nat.eq_zero_or_pos (Qaj ⟨0,b⟩).1 with h|h
   ·rw [h] at hne;exact absurd rfl hne
   exact h
  have:=h2 hp
  rw [QeQ (by omega)] at this
  omega
 refine .inr ⟨rfl,rfl,fun u hu e=>h ?_⟩
 have h1:=QcM hu []
 rw [List.append_nil,← e,List.append_nil] at h1
 have h2:=Qd0 (vnums u (vlen u)) [] (Qd7 hu _)
 rw [Qci,List.append_nil] at h2
 rw [h1]
 simp only
 rw [h2]
 refine ⟨Qdb.2 ⟨rfl,rfl⟩,fun hp=>?_⟩
 show vat (QgO (vnums u (vlen u))) (vlen u-1)≠0
 rw [Qd8 hu (k:=vlen u) (fun i a b=>QcI (n:=16) a b)]
 exact Qhn (n:=16) (by show vlen u≠0;omega)
end
def Qb5 (o:Opn):List Nat:=[o.dot.rep.toNat,o.dot.seq.toNat,o.kind.toNat,o.cart.toNat,o.item.toNat,o.qty.toNat,o.tick.toNat]
def Qbr (o:Opn):Bs:=QbA (Qb5 o)++QaM (QaF o.ctx)
theorem QnA (o:Opn):QaZ (Qbr o):=(Qlx _).app (Qdo (Qkl _))
def IsO (b:Bs) (o:Opn):Prop:=QbK o/\QaI o=true/\b=Qbr o
end Go.Vx
namespace Go.Vx
def nO (b:Bs) (i:Nat):Nat:=(Qaj (QaL i ⟨0,b⟩).2).1
def opD (b:Bs) (v:Vec):Opn:=⟨⟨(nO b 0:Int),(nO b 1:Int)⟩,(nO b 2:Int),(nO b 3:Int),(nO b 4:Int),(nO b 5:Int),(nO b 6:Int),v⟩
def opT (b:Bs) (v:Vec):Opn:=⟨⟨((nO b 0%256:Nat):Int),((nO b 1%4294967296:Nat):Int)⟩,((nO b 2%256:Nat):Int),((nO b 3%65536:Nat):Int),((nO b 4%65536:Nat):Int),((nO b 5%65536:Nat):Int),((nO b 6%4294967296:Nat):Int),v⟩
structure FitO (b:Bs):Prop where
 h0:nO b 0<256
 h1:nO b 1<4294967296
 h2:nO b 2<256
 h3:nO b 3<65536
 h4:nO b 4<65536
 h5:nO b 5<65536
 h6:nO b 6<4294967296
theorem Qi5 {b:Bs} (h:FitO b) (v:Vec):opT b v=opD b v:=by
 obtain ⟨h0,h1,h2,h3,h4,h5,h6⟩:=h
 unfold opT opD
 rw [Nat.mod_eq_of_lt h0,Nat.mod_eq_of_lt h1,Nat.mod_eq_of_lt h2,Nat.mod_eq_of_lt h3,Nat.mod_eq_of_lt h4,Nat.mod_eq_of_lt h5,Nat.mod_eq_of_lt h6]
theorem Qjc (b:Bs) {v:Vec} (h:Qbw v):QbK (opT b v) :=
 ⟨⟨⟨by show (0:Int)<=((_:Nat):Int);omega,by show ((_:Nat):Int)<256;omega⟩,by show (0:Int)<=((_:Nat):Int);omega,by show ((_:Nat):Int)<4294967296;omega⟩,
  ⟨by show (0:Int)<=((_:Nat):Int);omega,by show ((_:Nat):Int)<256;omega⟩,⟨by show (0:Int)<=((_:Nat):Int);omega,by show ((_:Nat):Int)<65536;omega⟩,
  ⟨by show (0:Int)<=((_:Nat):Int);omega,by show ((_:Nat):Int)<65536;omega⟩,⟨by show (0:Int)<=((_:Nat):Int);omega,by show ((_:Nat):Int)<65536;omega⟩,
  ⟨by show (0:Int)<=((_:Nat):Int);omega,by show ((_:Nat):Int)<4294967296;omega⟩,h⟩
theorem Qty {b:Bs} (hf:FitO b) {v:Vec} (h:Qbw v):QbK (opD b v):=Qi5 hf v ▸ Qjc b h
theorem QoA (b:Bs) (v:Vec):Qb5 (opD b v)=(QaL 7 ⟨0,b⟩).1:=by
 have h:∀ k,(QaL (k+1) ⟨0,b⟩).1=(QaL k ⟨0,b⟩).1++[nO b k]:=fun _=>rfl
 rw [h 6,h 5,h 4,h 3,h 2,h 1,h 0]
 simp only [Qb5,opD,Int.toNat_natCast]
 rfl
theorem Qik {o:Opn} (h:QbK o):L64 (Qb5 o):=by
 obtain ⟨⟨⟨a1,a2⟩,a3,a4⟩,⟨b1,b2⟩,⟨c1,c2⟩,⟨d1,d2⟩,⟨e1,e2⟩,⟨f1,f2⟩,_⟩:=h
 intro n hn
 simp only [Qb5,List.mem_cons,List.not_mem_nil,or_false] at hn
 rcases hn with rfl|rfl|rfl|rfl|rfl|rfl|rfl<;>omega
theorem Qbl {n:Nat} (h:n<18446744073709551616):(Qan n).length<=10:=by
 have key:∀ k n,n<128 ^ (k+1)->(Qan n).length<=k+1:=by
  intro k
  induction k with
  | zero=>intro n h;rw [Qb7 (by omega)];simp
  | succ k ih =>
   intro n h
   by_cases h1:n<128
   ·rw [Qb7 h1];simp
   rw [QcL (by omega),List.length_cons]
   have:=ih (n/128) (by rw [Nat.pow_succ] at h;omega)
   omega
 exact key 9 n (by omega)
theorem Qcu {k n:Nat} (h:n<128 ^ (k+1)):(Qan n).length<=k+1:=by
 induction k generalizing n with
 | zero=>rw [Qb7 (by omega)];simp
 | succ k ih =>
  by_cases h1:n<128
  ·rw [Qb7 h1];simp
  rw [QcL (by omega),List.length_cons]
  have:=ih (n:=n/128) (by rw [Nat.pow_succ] at h;omega)
  omega
theorem Qgl {c:Nat}:∀ {l:List Nat},(∀ n∈l,(Qan n).length<=c)->(QbA l).length<=c*l.length
 | [],_=>by simp [QbA]
 | n :: l,h=>by
  rw [QhE,QQ7,List.length_cons,Nat.mul_succ]
  have h1:=h n List.mem_cons_self
  have h2:=Qgl (l:=l) fun x hx=>h x (List.mem_cons_of_mem _ hx)
  omega
theorem Qct {v:Vec} (h:Qbw v):(QaF v).length<=81:=by
 unfold QaF
 rw [QQ7]
 have h1:(Qan (vlen v)).length<=1:=Qcu (k:=0) (by have:=Qiq v;omega)
 have h2:(QbA (vnums v (vlen v))).length<=5*(vnums v (vlen v)).length:=Qgl fun n hn=>Qcu (k:=4) (by have:=Qgi h _ n hn;omega)
 rw [Qci] at h2
 have:=Qiq v
 omega
theorem QbV {l:Bs} (h:l.length<16384):(QaM l).length<=l.length+2:=by
 unfold QaM
 rw [QQ7]
 have:(Qan l.length).length<=2:=Qcu (k:=1) h
 omega
theorem Qf8 {o:Opn} (h:QbK o):(Qbr o).length<=153:=by
 have hv:=Qct h.2.2.2.2.2.2
 have hf:=QbV (l:=QaF o.ctx) (by omega)
 have h64:=Qik h
 unfold Qbr
 rw [QQ7]
 have:(QbA (Qb5 o)).length<=10*7:=Qgl (l:=Qb5 o) fun n hn=>Qbl (h64 n hn)
 omega
theorem QgS {b:Bs} {u:Opn} (h:IsO b u):(∀ k,k<=7->(QaL k ⟨0,b⟩).2.e=0)/\QaT (QaL 7 ⟨0,b⟩).2=(QaF u.ctx,0,⟨0,[]⟩)/\FitO b/\u=opD b u.ctx:=by
 obtain ⟨ok,_,hb⟩:=h
 have h64:=Qik ok
 have hl:(Qb5 u).length=7:=rfl
 have hk:∀ k,k<=7->QaL k ⟨0,b⟩=((Qb5 u).take k,⟨0,QbA ((Qb5 u).drop k)++QaM (QaF u.ctx)⟩):=fun k hk=>by
  rw [hb];exact Qfq h64 (by rw [hl];exact hk)
 have h7:=hk 7 (Nat.le_refl _)
 have hn:∀ i,i<7->nO b i=(Qb5 u).getD i 0:=by
  intro i hi
  have h1:=hk (i+1) hi
  have h2:(QaL (i+1) ⟨0,b⟩).1=(QaL i ⟨0,b⟩).1++[nO b i]:=rfl
  rw [h1,hk i (by omega)] at h2
  simp only at h2
  rw [List.take_add_one,List.append_cancel_left_eq] at h2
  rw [List.getElem?_eq_getElem (by rw [hl];exact hi)] at h2
  simp only [Option.toList_some,List.cons.injEq,and_true] at h2
  rw [Ql9 (by rw [hl];exact hi),h2]
 obtain ⟨⟨⟨a1,a2⟩,a3,a4⟩,⟨b1,b2⟩,⟨c1,c2⟩,⟨d1,d2⟩,⟨e1,e2⟩,⟨f1,f2⟩,hv⟩:=ok
 have n0:nO b 0=u.dot.rep.toNat:=hn 0 (by omega)
 have n1:nO b 1=u.dot.seq.toNat:=hn 1 (by omega)
 have n2:nO b 2=u.kind.toNat:=hn 2 (by omega)
 have n3:nO b 3=u.cart.toNat:=hn 3 (by omega)
 have n4:nO b 4=u.item.toNat:=hn 4 (by omega)
 have n5:nO b 5=u.qty.toNat:=hn 5 (by omega)
 have n6:nO b 6=u.tick.toNat:=hn 6 (by omega)
 refine ⟨fun k h=>by rw [hk k h],?_,⟨by omega,by omega,by omega,by omega,by omega,by omega,by omega⟩,?_⟩
 ·rw [h7]
  have:=Qf7 (b:=QaF u.ctx) (by have:=Qct hv;omega) []
  rw [List.append_nil] at this
  exact this
 unfold opD
 rw [n0,n1,n2,n3,n4,n5,n6]
 rw [Int.toNat_of_nonneg a1,Int.toNat_of_nonneg a3,Int.toNat_of_nonneg b1,Int.toNat_of_nonneg c1,Int.toNat_of_nonneg d1,Int.toNat_of_nonneg e1,Int.toNat_of_nonneg f1]
theorem QpR {b:Bs} {u v:Opn} (hu:IsO b u) (hv:IsO b v):u=v:=by
 obtain ⟨_,h2,_,h4⟩:=QgS hu
 obtain ⟨_,g2,_,g4⟩:=QgS hv
 have:u.ctx=v.ctx:=Qd4 hu.1.2.2.2.2.2.2 hv.1.2.2.2.2.2.2 (Prod.mk.inj (h2.symm.trans g2)).1
 rw [h4,g4,this]
theorem QtR {b:Bs} {v:Vec} (ok:QaZ b) (he:(QaT (QaL 7 ⟨0,b⟩).2).2.2.e=0) (hd:(QaT (QaL 7 ⟨0,b⟩).2).2.2.l=[]) (hf:FitO b) (hv:Qbw v) (hc:(QaT (QaL 7 ⟨0,b⟩).2).1=QaF v) (hr:QaI (opD b v)=true):IsO b (opD b v):=by
 have okb:=Qdi (r:=⟨0,b⟩) ok 7
 obtain ⟨h1,_,h3,_⟩:=Qh8 okb he
 obtain ⟨_,h5,_⟩:=QhT (r:=⟨0,b⟩) ok 7 h1
 refine ⟨Qty hf hv,hr,?_⟩
 unfold Qbr
 rw [QoA]
 rw [hd,List.append_nil,hc] at h3
 show b=_++QaM (QaF v)
 rw [← h3]
 exact h5
def Qhg:Opn:=⟨⟨0,0⟩,0,0,0,0,0,vzero⟩
def Qef (b:Bs) (o:Opn) (e:Nat):Prop:=(e=0/\IsO b o)∨(e=5/\o=Qhg/\∀ u,¬IsO b u)
theorem Qef.uniq {b:Bs} {u v:Opn} {e f:Nat} (h:Qef b u e) (h':Qef b v f):u=v/\e=f:=by
 rcases h with ⟨rfl,h1⟩|⟨rfl,rfl,h2⟩<;>rcases h' with ⟨rfl,h3⟩|⟨rfl,rfl,h4⟩
 ·exact ⟨QpR h1 h3,rfl⟩
 ·exact absurd h1 (h4 u)
 ·exact absurd h3 (h2 v)
 exact ⟨rfl,rfl⟩
theorem Qef.ok {b:Bs} {o:Opn} {e:Nat} (h:Qef b o e):QbK o:=by
 rcases h with ⟨_,h,_⟩|⟨_,rfl,_⟩
 ·exact h
 refine ⟨⟨⟨?_,?_⟩,?_,?_⟩,⟨?_,?_⟩,⟨?_,?_⟩,⟨?_,?_⟩,⟨?_,?_⟩,⟨?_,?_⟩,fun i=>⟨?_,?_⟩⟩<;>simp [Qhg,vzero]
theorem QgR {b:Bs} (h:∀ u,IsO b u->False):Qef b Qhg 5:=.inr ⟨rfl,rfl,fun u hu=>h u hu⟩
theorem Qp2 {b:Bs} {v:Vec} {e:Nat} (ok:QaZ b) (he:(QaT (QaL 7 ⟨0,b⟩).2).2.2.e=0) (hd:(QaT (QaL 7 ⟨0,b⟩).2).2.2.l=[]) (hf:FitO b) (hv:QcA (QaT (QaL 7 ⟨0,b⟩).2).1 v e) :
  (e=0/\QaI (opD b v)=true->Qef b (opD b v) 0)/\(¬(e=0/\QaI (opD b v)=true)->Qef b Qhg 5):=by
 refine ⟨fun h=>?_,fun h=>?_⟩
 ·rcases hv with ⟨_,h1,h2⟩|⟨h0,_,_⟩
  ·exact .inl ⟨rfl,QtR ok he hd hf h1 h2 h.2⟩
  omega
 refine QgR fun u hu=>h ?_
 obtain ⟨_,g2,_,g4⟩:=QgS hu
 rw [g2] at hv
 rcases hv with ⟨h0,h1,h2⟩|⟨_,_,h2⟩
 ·have:u.ctx=v:=Qd4 hu.1.2.2.2.2.2.2 h1 h2
  refine ⟨h0,?_⟩
  rw [← this,← g4];exact hu.2.1
 exact absurd rfl (h2 u.ctx hu.1.2.2.2.2.2.2)
theorem Qqh {b:Bs} {v:Vec} {e:Nat} (hv:QcA (QaT (QaL 7 ⟨0,b⟩).2).1 v e) :
  (e=0/\QaI (opT b v)=true/\Qbr (opT b v)=b->Qef b (opT b v) 0)/\(¬(e=0/\QaI (opT b v)=true/\Qbr (opT b v)=b)->Qef b Qhg 5):=by
 refine ⟨fun h=>?_,fun h=>?_⟩
 ·rcases hv with ⟨_,h1,h2⟩|⟨h0,_,_⟩
  ·exact .inl ⟨rfl,Qjc b h1,h.2.1,h.2.2.symm⟩
  omega
 refine QgR fun u hu=>h ?_
 obtain ⟨_,g2,g3,g4⟩:=QgS hu
 rw [g2] at hv
 rcases hv with ⟨h0,h1,h2⟩|⟨_,_,h2⟩
 ·have:u.ctx=v:=Qd4 hu.1.2.2.2.2.2.2 h1 h2
  rw [Qi5 g3,← this,← g4]
  exact ⟨h0,hu.2.1,hu.2.2.symm⟩
 exact absurd rfl (h2 u.ctx hu.1.2.2.2.2.2.2)
end Go.Vx
namespace Go.Vx
def Qcd (l:List Bs):Bs:=l.flatMap QaM
theorem QhG (b:Bs) (l:List Bs):Qcd (b :: l)=QaM b++Qcd l:=rfl
theorem Qhw (l:List Bs) (b:Bs):Qcd (l++[b])=Qcd l++QaM b:=by simp [Qcd]
def Qcx:Nat->Rdr->List Bs × Rdr
 | 0,r=>([],r)
 | k+1,r=>((Qcx k r).1++[(QaT (Qcx k r).2).1],(QaT (Qcx k r).2).2.2)
theorem Qe6:∀ (k:Nat) (r:Rdr),(Qcx k r).1.length=k
 | 0,_=>rfl
 | k+1,r=>by simp [Qcx,Qe6 k r]
theorem Qhr {r:Rdr} (ok:QaZ r.l):∀ k,QaZ (Qcx k r).2.l
 | 0=>ok
 | k+1=>(Qcg (Qhr ok k)).1
theorem Qlk {r:Rdr} (ok:QaZ r.l):∀ k,(Qcx k r).2.e=0->r.e=0/\r.l=Qcd (Qcx k r).1++(Qcx k r).2.l
 | 0,h=>⟨h,rfl⟩
 | k+1,h=>by
  obtain ⟨h1,_,h3,_⟩:=Qh8 (Qhr ok k) h
  obtain ⟨a,b⟩:=Qlk ok k h1
  refine ⟨a,?_⟩
  show r.l=Qcd (_++[_])++_
  rw [Qhw,List.append_assoc]
  exact b.trans (congrArg _ h3)
theorem QnC:∀ (l:List Bs) (m:Bs),(∀ b∈l,b.length<18446744073709551616)->Qcx l.length ⟨0,Qcd l++m⟩=(l,⟨0,m⟩):=by
 have key:∀ (l a:List Bs) (m:Bs) (r:Rdr),(∀ b∈l,b.length<18446744073709551616)->Qcx a.length r=(a,⟨0,Qcd l++m⟩)->Qcx (a++l).length r=(a++l,⟨0,m⟩):=by
  intro l
  induction l with
  | nil=>intro a m r _ h;simpa [Qcd] using h
  | cons n l ih =>
   intro a m r h64 h
   have h1:Qcx (a++[n]).length r=(a++[n],⟨0,Qcd l++m⟩):=by
    rw [QQ7,List.length_singleton]
    show ((Qcx a.length r).1++[_],_)=_
    rw [h,QhG,List.append_assoc,Qf7 (h64 n List.mem_cons_self)]
   have:=ih (a++[n]) m r (fun x hx=>h64 x (List.mem_cons_of_mem _ hx)) h1
   simpa using this
 intro l m h
 simpa using key l [] m ⟨0,Qcd l++m⟩ h rfl
theorem QlV {l:List Bs} {k:Nat} (h:∀ b∈l,b.length<18446744073709551616) (hk:k<=l.length):Qcx k ⟨0,Qcd l⟩=(l.take k,⟨0,Qcd (l.drop k)⟩):=by
 have h1:Qcd l=Qcd (l.take k)++Qcd (l.drop k):=by
  unfold Qcd
  rw [← List.flatMap_append,List.take_append_drop]
 rw [h1]
 have h2:=QnC (l.take k) (Qcd (l.drop k)) (fun n hn=>h n (List.mem_of_mem_take hn))
 rw [List.length_take,Nat.min_eq_left hk] at h2
 exact h2
structure Msc where
 kind:Int
 frm:Int
 known:Vec
 ops:List Opn
 idx:Int
 tot:Int
 b:Bs
def mscz:Msc:=⟨0,0,vzero,[],0,0,[]⟩
def I64 (x:Int):Prop:=-9223372036854775808<=x/\x<9223372036854775808
structure MscOk (m:Msc):Prop where
 kd:I64 m.kind
 fr:0<=m.frm/\m.frm<256
 kn:Qbw m.known
 op:∀ o∈m.ops,QbK o
 ix:I64 m.idx
 tt:I64 m.tot
 by_:QaZ m.b
def QaJ (m:Msc):Bool:=decide (m.idx=0)&&decide (m.tot=0)&&decide (m.b.length=0)
def Qur (m:Msc):Bool:=QaJ m&&decide (m.known=vzero)&&decide (1<=m.ops.length)&&decide (m.ops.length<=16)&&m.ops.all QaI
def Qky (m:Msc):Bool:=decide (m.ops.length=0)&&decide (1<=m.tot)&&decide (m.tot<=64)&&decide (0<=m.idx)&&decide (m.idx<m.tot)&&decide (1<=m.b.length)&&decide (m.b.length<=2000)&&(decide (m.b.length=2000)||decide (m.idx=m.tot-1))
def QgD (m:Msc):Bool:=if m.kind=1 then QaJ m&&decide (m.ops.length=0) else if m.kind=2 then Qur m else if m.kind=3 then Qky m else false
def Qah (m:Msc):Bool:=decide (m.frm<16)&&QaE m.known 16&&QgD m
def Qc8 (m:Msc):Bs:=if m.kind=2 then Qan m.ops.length++Qcd (m.ops.map Qbr) else if m.kind=3 then Qan m.idx.toNat++(Qan m.tot.toNat++QaM m.b) else []
def Qap (m:Msc):Bs:=Qan m.kind.toNat++(Qan m.frm.toNat++(QaM (QaF m.known)++Qc8 m))
def Qse (m:Msc):Bs:=Qaz (Qap m)
def IsM (b:Bs) (m:Msc):Prop:=MscOk m/\Qah m=true/\b=Qse m
theorem QaG {m:Msc} (h:Qah m=true):(m.frm<16)/\((m.kind=1/\m.idx=0/\m.tot=0/\m.b=[]/\m.ops=[])∨(m.kind=2/\m.idx=0/\m.tot=0/\m.b=[]/\m.known=vzero/\1<=m.ops.length/\m.ops.length<=16/\(∀ o∈m.ops,QaI o=true))∨(m.kind=3/\m.ops=[]/\1<=m.tot/\m.tot<=64/\0<=m.idx/\m.idx<m.tot/\1<=m.b.length/\m.b.length<=2000)):=by
 unfold Qah QgD at h
 simp only [Bool.and_eq_true,decide_eq_true_eq] at h
 obtain ⟨⟨h1,_⟩,h2⟩:=h
 refine ⟨h1,?_⟩
 by_cases k1:m.kind=1
 ·rw [if_pos k1] at h2
  unfold QaJ at h2
  simp only [Bool.and_eq_true,decide_eq_true_eq] at h2
  exact .inl ⟨k1,h2.1.1.1,h2.1.1.2,List.eq_nil_of_length_eq_zero h2.1.2,List.eq_nil_of_length_eq_zero h2.2⟩
 rw [if_neg k1] at h2
 by_cases k2:m.kind=2
 ·rw [if_pos k2] at h2
  unfold Qur QaJ at h2
  simp only [Bool.and_eq_true,decide_eq_true_eq,List.all_eq_true] at h2
  obtain ⟨⟨⟨⟨⟨⟨a,b⟩,c⟩,d⟩,e⟩,f⟩,g⟩:=h2
  exact .inr (.inl ⟨k2,a,b,List.eq_nil_of_length_eq_zero c,d,e,f,g⟩)
 rw [if_neg k2] at h2
 by_cases k3:m.kind=3
 ·rw [if_pos k3] at h2
  unfold Qky at h2
  simp only [Bool.and_eq_true,decide_eq_true_eq] at h2
  obtain ⟨⟨⟨⟨⟨⟨⟨a,b⟩,c⟩,d⟩,e⟩,f⟩,g⟩,_⟩:=h2
  exact .inr (.inr ⟨k3,List.eq_nil_of_length_eq_zero a,b,c,d,e,f,g⟩)
 rw [if_neg k3] at h2;cases h2
theorem Qg6 {c:Nat}:∀ {l:List Bs},(∀ b∈l,(QaM b).length<=c)->(Qcd l).length<=c*l.length
 | [],_=>by simp [Qcd]
 | n :: l,h=>by
  rw [QhG,QQ7,List.length_cons,Nat.mul_succ]
  have h1:=h n List.mem_cons_self
  have h2:=Qg6 (l:=l) fun x hx=>h x (List.mem_cons_of_mem _ hx)
  omega
theorem Qor {m:Msc} (ok:MscOk m):∀ b∈m.ops.map Qbr,b.length<=153:=fun b hb=>by
 obtain ⟨o,ho,rfl⟩:=List.mem_map.1 hb
 exact Qf8 (ok.op o ho)
theorem QmB {m:Msc} (ok:MscOk m) (h:Qah m=true):(Qc8 m).length<=3000:=by
 obtain ⟨h1,h2⟩:=QaG h
 rcases h2 with ⟨k,_⟩|⟨k,_,_,_,_,h3,h4,_⟩|⟨k,_,h3,h4,h5,h6,h7,h8⟩
 ·unfold Qc8;rw [if_neg (by omega),if_neg (by omega)];simp
 ·unfold Qc8;rw [if_pos k,QQ7]
  have a:=Qcu (k:=0) (n:=m.ops.length) (by omega)
  have b:=Qg6 (c:=155) (l:=m.ops.map Qbr) fun b hb=>by
   have:=Qor ok b hb
   have:=QbV (l:=b) (by omega)
   omega
  rw [QQ6] at b
  omega
 unfold Qc8;rw [if_neg (by omega),if_pos k,QQ7,QQ7]
 have a:=Qcu (k:=0) (n:=m.idx.toNat) (by omega)
 have b:=Qcu (k:=0) (n:=m.tot.toNat) (by omega)
 have c:=QbV (l:=m.b) (by omega)
 omega
theorem Qg7 {m:Msc} (ok:MscOk m) (h:Qah m=true):(Qap m).length<=4096:=by
 obtain ⟨h1,h2⟩:=QaG h
 have ht:=QmB ok h
 have hk:m.kind.toNat<=3:=by omega
 have a:=Qcu (k:=0) (n:=m.kind.toNat) (by omega)
 have b:=Qcu (k:=0) (n:=m.frm.toNat) (by omega)
 have c:=Qct ok.kn
 have d:=QbV (l:=QaF m.known) (by omega)
 unfold Qap
 rw [QQ7,QQ7,QQ7]
 omega
theorem QpN {m:Msc} (ok:MscOk m):QaZ (Qc8 m):=by
 unfold Qc8
 split
 ·refine (Qc6 _).app fun c hc=>?_
  obtain ⟨b,hb,h⟩:=List.mem_flatMap.1 hc
  obtain ⟨o,_,rfl⟩:=List.mem_map.1 hb
  exact Qdo (QnA o) c h
 split
 ·exact (Qc6 _).app ((Qc6 _).app (Qdo ok.by_))
 intro c hc;cases hc
theorem QeS {m:Msc} (ok:MscOk m):QaZ (Qap m):=(Qc6 _).app ((Qc6 _).app ((Qdo (Qkl _)).app (QpN ok)))
def hd0 (f:Bs):Rdr:=⟨0,f⟩
def xK (f:Bs):Nat:=(Qaj ⟨0,f⟩).1
def rK (f:Bs):Rdr:=(Qaj ⟨0,f⟩).2.2
def xF (f:Bs):Nat:=(Qaj (rK f)).1
def rF (f:Bs):Rdr:=(Qaj (rK f)).2.2
def bV (f:Bs):Bs:=(QaT (rF f)).1
def rV (f:Bs):Rdr:=(QaT (rF f)).2.2
def xN (f:Bs):Nat:=(Qaj (rV f)).1
def rN (f:Bs):Rdr:=(Qaj (rV f)).2.2
def xT (f:Bs):Nat:=(Qaj (rN f)).1
def rT (f:Bs):Rdr:=(Qaj (rN f)).2.2
def bB (f:Bs):Bs:=(QaT (rT f)).1
def rB (f:Bs):Rdr:=(QaT (rT f)).2.2
theorem QgA {m:Msc} (h:Qah m=true):1<=m.kind/\m.kind<=3/\m.frm<16:=by
 obtain ⟨h1,h2⟩:=QaG h
 exact ⟨by omega,by omega,h1⟩
theorem Qcj {b:Bs} {u:Msc} (h:IsM b u):QaP b=(Qap u,b.length,0)/\(xK (Qap u):Int)=u.kind/\(xF (Qap u):Int)=u.frm/\bV (Qap u)=QaF u.known/\rV (Qap u)=⟨0,Qc8 u⟩:=by
 obtain ⟨ok,hr,hb⟩:=h
 obtain ⟨k1,k3,kf⟩:=QgA hr
 have hf0:=ok.fr
 have h1:=Qkt (Qg7 ok hr) []
 rw [List.append_nil] at h1
 have e1:Qaj ⟨0,Qap u⟩=(u.kind.toNat,0,⟨0,Qan u.frm.toNat++(QaM (QaF u.known)++Qc8 u)⟩):=QcW (by omega) _
 have e2:Qaj (rK (Qap u))=(u.frm.toNat,0,⟨0,QaM (QaF u.known)++Qc8 u⟩):=by
  unfold rK;rw [e1];exact QcW (by omega) _
 have e3:QaT (rF (Qap u))=(QaF u.known,0,⟨0,Qc8 u⟩):=by
  unfold rF;rw [e2];exact Qf7 (by have:=Qct ok.kn;omega) _
 refine ⟨?_,?_,?_,?_,?_⟩
 ·rw [hb];exact h1
 ·unfold xK;rw [e1];show ((u.kind.toNat:Nat):Int)=_;omega
 ·unfold xF;rw [e2];show ((u.frm.toNat:Nat):Int)=_;omega
 ·unfold bV;rw [e3]
 unfold rV;rw [e3]
theorem QgE {b:Bs} {u:Msc} (h:IsM b u) (hk:u.kind=2):xN (Qap u)=u.ops.length/\u.ops.length<=16/\∀ k,k<=u.ops.length->Qcx k (rN (Qap u))=((u.ops.map Qbr).take k,⟨0,Qcd ((u.ops.map Qbr).drop k)⟩):=by
 obtain ⟨_,_,_,_,h5⟩:=Qcj h
 obtain ⟨ok,hr,hb⟩:=h
 have h16:u.ops.length<=16:=by
  obtain ⟨_,h2⟩:=QaG hr
  rcases h2 with ⟨k,_⟩|⟨k,_,_,_,_,h3,h4,_⟩|⟨k,_⟩
  ·omega
  ·exact h4
  omega
 have e1:Qaj (rV (Qap u))=(u.ops.length,0,⟨0,Qcd (u.ops.map Qbr)⟩):=by
  rw [h5];unfold Qc8;rw [if_pos hk];exact QcW (by omega) _
 refine ⟨by unfold xN;rw [e1],h16,fun k hk=>?_⟩
 unfold rN
 rw [e1]
 exact QlV (fun b hb=>by have:=Qor ok b hb;omega) (by rw [QQ6];exact hk)
theorem Qgh {b:Bs} {u:Msc} (h:IsM b u) (hk:u.kind=3):(xN (Qap u):Int)=u.idx/\(xT (Qap u):Int)=u.tot/\bB (Qap u)=u.b/\rB (Qap u)=⟨0,[]⟩/\u.idx<64/\u.tot<=64:=by
 obtain ⟨_,_,_,_,h5⟩:=Qcj h
 obtain ⟨ok,hr,hb⟩:=h
 obtain ⟨_,h2⟩:=QaG hr
 rcases h2 with ⟨k,_⟩|⟨k,_⟩|⟨k,_,q1,q2,q3,q4,q5,q6⟩
 ·omega
 ·omega
 have e1:Qaj (rV (Qap u))=(u.idx.toNat,0,⟨0,Qan u.tot.toNat++QaM u.b⟩):=by
  rw [h5];unfold Qc8;rw [if_neg (by omega),if_pos hk];exact QcW (by omega) _
 have e2:Qaj (rN (Qap u))=(u.tot.toNat,0,⟨0,QaM u.b⟩):=by
  unfold rN;rw [e1];exact QcW (by omega) _
 have e3:QaT (rT (Qap u))=(u.b,0,⟨0,[]⟩):=by
  unfold rT;rw [e2]
  have:=Qf7 (b:=u.b) (by omega) []
  rw [List.append_nil] at this
  exact this
 refine ⟨?_,?_,?_,?_,by omega,by omega⟩
 ·unfold xN;rw [e1];show ((u.idx.toNat:Nat):Int)=_;omega
 ·unfold xT;rw [e2];show ((u.tot.toNat:Nat):Int)=_;omega
 ·unfold bB;rw [e3]
 unfold rB;rw [e3]
def QcT (b:Bs) (m:Msc) (e:Nat):Prop:=((QaP b).2.2≠0/\e=(QaP b).2.2/\m=mscz)∨((QaP b).2.2=0/\((e=0/\IsM b m)∨(e=5/\m=mscz/\∀ u,¬IsM b u)))
theorem QcT.first {b:Bs} (h:(QaP b).2.2≠0):QcT b mscz (QaP b).2.2:=.inl ⟨h,rfl,rfl⟩
theorem QcT.no {b:Bs} (h:(QaP b).2.2=0) (hn:∀ u,IsM b u->False):QcT b mscz 5:=.inr ⟨h,.inr ⟨rfl,rfl,fun u hu=>hn u hu⟩⟩
theorem QcT.yes {b:Bs} {m:Msc} (h:(QaP b).2.2=0) (hm:IsM b m):QcT b m 0:=.inr ⟨h,.inl ⟨rfl,hm⟩⟩
theorem QcC {b f:Bs} {k e:Nat} {u:Msc} (h:IsM b u) (hf:QaP b=(f,k,e)):f=Qap u/\k=b.length/\e=0:=by
 have:=(Qcj h).1
 rw [hf] at this
 injection this with a c
 injection c with c d
 exact ⟨a,c,d⟩
theorem QfZ {b f:Bs} {k e g:Nat} {v:Vec} {u:Msc} (h:IsM b u) (hf:QaP b=(f,k,e)) (hv:QcA (bV f) v g):g=0/\v=u.known:=by
 obtain ⟨rfl,_,_⟩:=QcC h hf
 rw [(Qcj h).2.2.2.1] at hv
 rcases hv with ⟨h0,h1,h2⟩|⟨_,_,h2⟩
 ·exact ⟨h0,(Qd4 h.1.kn h1 h2).symm⟩
 exact absurd rfl (h2 u.known h.1.kn)
def QfO (l:List Bs) (o:List Opn):Prop:=l.length=o.length/\∀ i,i<o.length->∃ e,Qef (l.getD i []) (o.getD i Qhg) e
theorem QfO.nil:QfO [] []:=⟨rfl,fun i h=>absurd h (Nat.not_lt_zero i)⟩
theorem QfO.snoc {l:List Bs} {o:List Opn} {b:Bs} {x:Opn} {e:Nat} (h:QfO l o) (hx:Qef b x e):QfO (l++[b]) (o++[x]):=by
 obtain ⟨h1,h2⟩:=h
 refine ⟨by simp [h1],fun i hi=>?_⟩
 rw [QQ7,List.length_singleton] at hi
 simp only [List.getD_eq_getElem?_getD]
 rcases Nat.lt_or_ge i o.length with h|h
 ·rw [List.getElem?_append_left h,List.getElem?_append_left (by omega)]
  simpa only [List.getD_eq_getElem?_getD] using h2 i h
 have:i=o.length:=by omega
 subst this
 rw [List.getElem?_append_right (Nat.le_refl _),← h1,List.getElem?_append_right (Nat.le_refl _)]
 simpa using ⟨e,hx⟩
theorem QfO.enc {u o:List Opn} (hu:∀ x∈u,QbK x/\QaI x=true) (h:QfO (u.map Qbr) o):o=u:=by
 obtain ⟨h1,h2⟩:=h
 rw [QQ6] at h1
 refine List.ext_getElem h1.symm fun i hi hj=>?_
 obtain ⟨e,h3⟩:=h2 i hi
 simp only [List.getD_eq_getElem?_getD,List.getElem?_map,List.getElem?_eq_getElem hi,List.getElem?_eq_getElem hj,Option.map_some,Option.getD_some] at h3
 obtain ⟨a,c⟩:=hu _ (List.getElem_mem hj)
 have h4:Qef (Qbr u[i]) u[i] 0:=.inl ⟨rfl,a,c,rfl⟩
 exact (h3.uniq h4).1
theorem QeF {b:Bs} {u:Msc} (h:IsM b u) (hk:u.kind=2):∀ x∈u.ops,QbK x/\QaI x=true:=fun x hx=>by
 refine ⟨h.1.op x hx,?_⟩
 obtain ⟨_,h2⟩:=QaG h.2.1
 rcases h2 with ⟨k,_⟩|⟨k,_,_,_,_,_,_,h4⟩|⟨k,_⟩
 ·omega
 ·exact h4 x hx
 omega
theorem Qc4 {u m:Msc} (h1:u.kind=m.kind) (h2:u.frm=m.frm) (h3:u.known=m.known) (h4:u.ops=m.ops) (h5:u.idx=m.idx) (h6:u.tot=m.tot) (h7:u.b=m.b):u=m:=by
 cases u;cases m;simp_all
theorem Qfc {b f:Bs} {k:Nat} (ok:QaZ b) (h:QaP b=(f,k,0)):QaZ f:=by
 obtain ⟨_,h2,_⟩:=QjD ok h
 intro c hc
 refine ok c ?_
 rw [h2]
 unfold Qaz QaM
 simp [hc]
theorem QdP {f:Bs} (ok:QaZ f) (h:(rV f).e=0):f=Qan (xK f)++(Qan (xF f)++(QaM (bV f)++(rV f).l)):=by
 have o1:QaZ (rK f).l:=Qbu (r:=⟨0,f⟩) ok
 have o2:QaZ (rF f).l:=Qbu (r:=rK f) o1
 obtain ⟨e2,_,q3,_⟩:=Qh8 o2 h
 obtain ⟨e1,_,q2,_⟩:=Qdr o1 e2
 obtain ⟨_,_,q1,_⟩:=Qdr (r:=⟨0,f⟩) ok e1
 show f=_
 refine q1.trans (congrArg _ (q2.trans (congrArg _ q3)))
theorem QnB {b f:Bs} {v:Vec} {m:Msc} (ok:QaZ b) (hf:QaP b=(f,b.length,0)) (hv:QcA (bV f) v 0) (he:(rV f).e=0) (hk:m.kind=(xK f:Int)) (hx:m.frm=(xF f:Int)) (hn:m.known=v) (ht:(rV f).l=Qc8 m) (hm:MscOk m) (hr:Qah m=true):IsM b m:=by
 refine ⟨hm,hr,?_⟩
 obtain ⟨_,h2,_⟩:=QjD ok hf
 rw [List.drop_length,List.append_nil] at h2
 rw [h2]
 unfold Qse Qap
 congr 1
 rw [QdP (Qfc ok hf) he,ht]
 rcases hv with ⟨_,_,h4⟩|⟨h0,_⟩
 ·rw [h4,hn,hk,hx,Int.toNat_natCast,Int.toNat_natCast]
 cases h0
abbrev QjQ (f:Bs) (v:Vec) (o:List Opn) (i t:Int) (b:Bs):Msc:=⟨((min (xK f) 100:Nat):Int),((min (xF f) 100:Nat):Int),v,o,i,t,b⟩
theorem QkD (n:Nat):I64 ((min n 100:Nat):Int):=by unfold I64;omega
theorem QfQ:I64 0:=by unfold I64;omega
theorem Qj3 {f:Bs} {v:Vec} {o:List Opn} {i t:Int} {b:Bs} (hv:Qbw v) (ho:∀ x∈o,QbK x) (hi:I64 i) (ht:I64 t) (hb:QaZ b):MscOk (QjQ f v o i t b) where
 kd:=QkD _
 fr:=by show (0:Int)<=((min (xF f) 100:Nat):Int)/\((min (xF f) 100:Nat):Int)<256;omega
 kn:=hv
 op:=ho
 ix:=hi
 tt:=ht
 by_:=hb
theorem QcY:QaZ []:=fun _ hc=>nomatch hc
theorem QhW {b f:Bs} {k e:Nat} {v:Vec} {u m:Msc} (h:IsM b u) (hf:QaP b=(f,k,e)) (hv:QcA (bV f) v 0) (hk:m.kind=((min (xK f) 100:Nat):Int)) (hx:m.frm=((min (xF f) 100:Nat):Int)) (hn:m.known=v):u.kind=m.kind/\u.frm=m.frm/\u.known=m.known:=by
 obtain ⟨_,h8⟩:=QfZ h hf hv
 obtain ⟨rfl,_,_⟩:=QcC h hf
 obtain ⟨_,h1,h2,_,_⟩:=Qcj h
 obtain ⟨k1,k3,kf⟩:=QgA h.2.1
 exact ⟨by rw [hk];omega,by rw [hx];omega,by rw [hn,h8]⟩
theorem Qqq {b f:Bs} {v:Vec} (ok:QaZ b) (hf:QaP b=(f,b.length,0)) (hv:QcA (bV f) v 0) (h2:min (xK f) 100≠2) (h3:min (xK f) 100≠3) :
  (QaU (rV f)=true/\Qah (QjQ f v [] 0 0 [])=true->QcT b (QjQ f v [] 0 0 []) 0)/\(¬(QaU (rV f)=true/\Qah (QjQ f v [] 0 0 [])=true)->QcT b mscz 5):=by
 have hv':Qbw v:=by
  rcases hv with ⟨_,h,_⟩|⟨h0,_⟩
  ·exact h
  cases h0
 refine ⟨fun h=>?_,fun h=>?_⟩
 ·obtain ⟨d1,d2⟩:=Qdb.1 h.1
  refine .yes (by rw [hf]) (QnB ok hf hv d1 ?_ ?_ rfl ?_ ?_ h.2)
  ·have:=(QgA h.2).2.1
   show ((min (xK f) 100:Nat):Int)=_
   simp only at this
   omega
  ·have:=(QgA h.2).2.2
   show ((min (xF f) 100:Nat):Int)=_
   simp only at this
   omega
  ·rw [d2];unfold Qc8;rw [if_neg (by simp only;omega),if_neg (by simp only;omega)]
  exact Qj3 hv' (fun _ h=>nomatch h) QfQ QfQ QcY
 refine .no (by rw [hf]) fun u hu=>h ?_
 obtain ⟨a1,a2,a3⟩:=QhW (m:=QjQ f v [] 0 0 []) hu hf hv rfl rfl rfl
 obtain ⟨rfl,_,_⟩:=QcC hu hf
 obtain ⟨_,_,_,_,q5⟩:=Qcj hu
 obtain ⟨_,w⟩:=QaG hu.2.1
 simp only at a1
 have w:u.kind=1/\u.idx=0/\u.tot=0/\u.b=[]/\u.ops=[]:=by
  rcases w with w|w|w
  ·exact w
  ·omega
  omega
 refine ⟨?_,?_⟩
 ·rw [q5];unfold Qc8;rw [if_neg (by omega),if_neg (by omega)];rfl
 rw [← Qc4 (u:=u) (m:=QjQ (Qap u) v [] 0 0 []) a1 a2 a3 w.2.2.2.2 w.2.1 w.2.2.1 w.2.2.2.1];exact hu.2.1
theorem Qnm {b f c:Bs} {k e j:Nat} {o:Opn} (hf:QaP b=(f,j,0)) (h2:min (xK f) 100=2) (hk:k<min (min (xN f) 100) 17) (hc:c=(QaT (Qcx k (rN f)).2).1) (ho:Qef c o e) (he:e≠0):QcT b mscz 5:=by
 refine .no (by rw [hf]) fun u hu=>he ?_
 obtain ⟨rfl,_,_⟩:=QcC hu hf
 obtain ⟨_,h1,_,_,_⟩:=Qcj hu
 obtain ⟨k1,k3,kf⟩:=QgA hu.2.1
 have hu2:u.kind=2:=by omega
 obtain ⟨q1,q2,q3⟩:=QgE hu hu2
 rw [q1] at hk
 have hk':k<u.ops.length:=by omega
 have q4:=q3 k (by omega)
 have q5:=q3 (k+1) (by omega)
 have q6:(Qcx (k+1) (rN (Qap u))).1=(Qcx k (rN (Qap u))).1++[c]:=by rw [hc];rfl
 rw [q4,q5] at q6
 simp only at q6
 rw [List.take_add_one,List.append_cancel_left_eq,List.getElem?_eq_getElem (by rw [QQ6];exact hk')] at q6
 simp only [Option.toList_some,List.cons.injEq,and_true,List.getElem_map] at q6
 obtain ⟨a,d⟩:=QeF hu hu2 _ (List.getElem_mem hk')
 rw [← q6] at ho
 exact (ho.uniq (.inl ⟨rfl,a,d,rfl⟩)).2
def Qmg (l:List Bs) (o:List Opn):Prop:=l.length=o.length/\∀ i,i<o.length->IsO (l.getD i []) (o.getD i Qhg)
theorem Qmg.nil:Qmg [] []:=⟨rfl,fun i h=>absurd h (Nat.not_lt_zero i)⟩
theorem Qmg.dec {l:List Bs} {o:List Opn} (h:Qmg l o):QfO l o:=⟨h.1,fun i hi=>⟨0,.inl ⟨rfl,h.2 i hi⟩⟩⟩
theorem Qmg.snoc {l:List Bs} {o:List Opn} {b:Bs} {x:Opn} (h:Qmg l o) (hx:IsO b x):Qmg (l++[b]) (o++[x]):=by
 obtain ⟨h1,h2⟩:=h
 refine ⟨by simp [h1],fun i hi=>?_⟩
 rw [QQ7,List.length_singleton] at hi
 simp only [List.getD_eq_getElem?_getD]
 rcases Nat.lt_or_ge i o.length with h|h
 ·rw [List.getElem?_append_left h,List.getElem?_append_left (by omega)]
  simpa only [List.getD_eq_getElem?_getD] using h2 i h
 have:i=o.length:=by omega
 subst this
 rw [List.getElem?_append_right (Nat.le_refl _),← h1,List.getElem?_append_right (Nat.le_refl _)]
 simpa using hx
theorem Qmg.enc {l:List Bs} {o:List Opn} (h:Qmg l o):l=o.map Qbr/\∀ x∈o,QbK x:=by
 obtain ⟨h1,h2⟩:=h
 refine ⟨List.ext_getElem (by rw [h1,QQ6]) fun i hi hj=>?_,fun x hx=>?_⟩
 ·rw [QQ6] at hj
  have:=(h2 i hj).2.2
  simp only [List.getD_eq_getElem?_getD,List.getElem?_eq_getElem hi,List.getElem?_eq_getElem hj,Option.getD_some] at this
  rw [List.getElem_map];exact this
 obtain ⟨i,hi,rfl⟩:=List.mem_iff_getElem.1 hx
 have:=(h2 i hi).1
 simpa only [List.getD_eq_getElem?_getD,List.getElem?_eq_getElem hi,Option.getD_some] using this
theorem QpQ {b f:Bs} {v:Vec} {n:Nat} {out:List Opn} (ok:QaZ b) (hf:QaP b=(f,b.length,0)) (hv:QcA (bV f) v 0) (h2:min (xK f) 100=2) (hn:n=min (min (xN f) 100) 17) (ho:Qmg (Qcx n (rN f)).1 out) :
  (QaU (Qcx n (rN f)).2=true/\Qah (QjQ f v out 0 0 [])=true->QcT b (QjQ f v out 0 0 []) 0)/\(¬(QaU (Qcx n (rN f)).2=true/\Qah (QjQ f v out 0 0 [])=true)->QcT b mscz 5):=by
 have hv':Qbw v:=by
  rcases hv with ⟨_,h,_⟩|⟨h0,_⟩
  ·exact h
  cases h0
 have hlen:n=out.length:=by rw [← ho.1,Qe6]
 refine ⟨fun h=>?_,fun h=>?_⟩
 ·obtain ⟨d1,d2⟩:=Qdb.1 h.1
  have okf:=Qfc ok hf
  have o1:QaZ (rK f).l:=Qbu (r:=⟨0,f⟩) okf
  have o2:QaZ (rF f).l:=Qbu (r:=rK f) o1
  have o3:QaZ (rV f).l:=(Qcg (r:=rF f) o2).1
  have o4:QaZ (rN f).l:=Qbu (r:=rV f) o3
  obtain ⟨e4,q4⟩:=Qlk o4 n d1
  obtain ⟨e3,_,q3,_⟩:=Qdr (r:=rV f) o3 e4
  obtain ⟨_,w⟩:=QaG h.2
  have hk2:(QjQ f v out 0 0 []).kind=2:=by show ((min (xK f) 100:Nat):Int)=2;omega
  have w16:out.length<=16:=by
   rcases w with w|w|w
   ·omega
   ·exact w.2.2.2.2.2.2.1
   omega
  have hx:xN f=out.length:=by omega
  refine .yes (by rw [hf]) (QnB ok hf hv e3 ?_ ?_ rfl ?_ ?_ h.2)
  ·show ((min (xK f) 100:Nat):Int)=_
   omega
  ·have:=(QgA h.2).2.2
   show ((min (xF f) 100:Nat):Int)=_
   simp only at this
   omega
  ·rw [d2,List.append_nil,ho.enc.1] at q4
   unfold Qc8
   rw [if_pos hk2]
   show (rV f).l=Qan out.length++Qcd (out.map Qbr)
   rw [← q4,← hx];exact q3
  exact Qj3 hv' ho.enc.2 QfQ QfQ QcY
 refine .no (by rw [hf]) fun u hu=>h ?_
 obtain ⟨a1,a2,a3⟩:=QhW (m:=QjQ f v out 0 0 []) hu hf hv rfl rfl rfl
 obtain ⟨rfl,_,_⟩:=QcC hu hf
 simp only at a1
 have hu2:u.kind=2:=by omega
 obtain ⟨q1,q2,q3⟩:=QgE hu hu2
 have q4:=q3 u.ops.length (Nat.le_refl _)
 have hnu:n=u.ops.length:=by rw [hn,q1];omega
 rw [← hnu] at q4
 rw [q4] at ho ⊢
 rw [List.take_of_length_le (by rw [QQ6];omega)] at ho
 have ho':=ho.dec.enc (QeF hu hu2)
 obtain ⟨_,w⟩:=QaG hu.2.1
 have w:u.idx=0/\u.tot=0/\u.b=[]:=by
  rcases w with w|w|w
  ·omega
  ·exact ⟨w.2.1,w.2.2.1,w.2.2.2.1⟩
  omega
 refine ⟨?_,?_⟩
 ·rw [List.drop_of_length_le (by rw [QQ6];omega)];rfl
 rw [← Qc4 (u:=u) (m:=QjQ (Qap u) v out 0 0 []) (by simp only;omega) a2 a3 ho'.symm w.1 w.2.1 w.2.2];exact hu.2.1
theorem QpW {b f:Bs} {k:Nat} {m:Msc} (hf:QaP b=(f,k,0)) (hm:MscOk m) (hs:∀ u,IsM b u->u=m) :
  (Qah m=true/\Qse m=b->QcT b m 0)/\(¬(Qah m=true/\Qse m=b)->QcT b mscz 5):=by
 refine ⟨fun h=>?_,fun h=>?_⟩
 ·exact .yes (by rw [hf]) ⟨hm,h.1,h.2.symm⟩
 refine .no (by rw [hf]) fun u hu=>h ?_
 rw [← hs u hu]
 exact ⟨hu.2.1,hu.2.2.symm⟩
end Go.Vx
namespace Go.Vx
theorem QvK {r:Rdr} (ok:QaZ r.l):QaZ (QaT (Qaj (Qaj r).2.2).2.2).1/\((QaT (Qaj (Qaj r).2.2).2.2).2.2.e=0->r.e=0/\r.l=Qan (Qaj r).1++(Qan (Qaj (Qaj r).2.2).1++(QaM (QaT (Qaj (Qaj r).2.2).2.2).1++(QaT (Qaj (Qaj r).2.2).2.2).2.2.l))):=by
 have o4:=Qbu ok
 generalize h4:(Qaj r).2.2=r4 at *
 have o5:=Qbu o4
 generalize h5:(Qaj r4).2.2=r5 at *
 refine ⟨(Qcg o5).2,fun h=>?_⟩
 obtain ⟨e5,_,q5,_⟩:=Qh8 o5 h
 have h4e:(Qaj r4).2.2.e=0:=by rw [h5];exact e5
 obtain ⟨e4,_,q4,_⟩:=Qdr o4 h4e
 have h3e:(Qaj r).2.2.e=0:=by rw [h4];exact e4
 obtain ⟨e3,_,q3,_⟩:=Qdr ok h3e
 rw [h4] at q3
 rw [h5] at q4
 exact ⟨e3,by rw [q3,q4,q5]⟩
theorem Qv8 {f:Bs} (o3:QaZ (rV f).l):QaZ (bB f)/\((rB f).e=0->(rV f).e=0/\(rV f).l=Qan (xN f)++(Qan (xT f)++(QaM (bB f)++(rB f).l))):=by
 have h:=QvK o3
 unfold bB rB xT rT xN rN
 exact h
theorem Ql0 {b f:Bs} {v:Vec} (ok:QaZ b) (hf:QaP b=(f,b.length,0)) (hv:QcA (bV f) v 0) (h3:min (xK f) 100=3) {m:Msc} (hmm:m=QjQ f v [] ((min (xN f) 100:Nat):Int) ((min (xT f) 100:Nat):Int) (bB f)) :
  (QaU (rB f)=true/\Qah m=true->QcT b m 0)/\(¬(QaU (rB f)=true/\Qah m=true)->QcT b mscz 5):=by
 have m1:m.kind=((min (xK f) 100:Nat):Int):=by rw [hmm]
 have m2:m.frm=((min (xF f) 100:Nat):Int):=by rw [hmm]
 have m3:m.known=v:=by rw [hmm]
 have m4:m.ops=[]:=by rw [hmm]
 have m5:m.idx=((min (xN f) 100:Nat):Int):=by rw [hmm]
 have m6:m.tot=((min (xT f) 100:Nat):Int):=by rw [hmm]
 have m7:m.b=bB f:=by rw [hmm]
 have hv':Qbw v:=by
  rcases hv with ⟨_,h,_⟩|⟨h0,_⟩
  ·exact h
  cases h0
 have okf:=Qfc ok hf
 have o3:QaZ (rV f).l:=(Qcg (r:=rF f) (Qbu (r:=rK f) (Qbu (r:=⟨0,f⟩) okf))).1
 obtain ⟨o6,t6⟩:=Qv8 o3
 refine ⟨fun h=>?_,fun h=>?_⟩
 ·obtain ⟨d1,d2⟩:=Qdb.1 h.1
  obtain ⟨e3,q3⟩:=t6 d1
  rw [d2,List.append_nil] at q3
  obtain ⟨_,w⟩:=QaG h.2
  have w:((min (xT f) 100:Nat):Int)<=64/\((min (xN f) 100:Nat):Int)<((min (xT f) 100:Nat):Int):=by
   rcases w with w|w|w
   ·omega
   ·omega
   exact ⟨by have:=w.2.2.2.1;omega,by have:=w.2.2.2.2.2.1;omega⟩
  refine .yes (by rw [hf]) (QnB ok hf hv e3 ?_ ?_ m3 ?_ ?_ h.2)
  ·omega
  ·have:=(QgA h.2).2.2
   omega
  ·unfold Qc8
   rw [if_neg (by omega),if_pos (by omega),m5,m6,m7]
   rw [Int.toNat_natCast,Int.toNat_natCast,show min (xN f) 100=xN f by omega,show min (xT f) 100=xT f by omega]
   exact q3
  rw [hmm]
  exact Qj3 hv' (fun _ h=>nomatch h) (QkD _) (QkD _) o6
 refine .no (by rw [hf]) fun u hu=>h ?_
 obtain ⟨a1,a2,a3⟩:=QhW (m:=m) hu hf hv m1 m2 m3
 obtain ⟨rfl,_,_⟩:=QcC hu hf
 have hu3:u.kind=3:=by omega
 obtain ⟨q1,q2,q3,q4,q5,q6⟩:=Qgh hu hu3
 obtain ⟨_,w⟩:=QaG hu.2.1
 have w:u.ops=[]/\0<=u.idx:=by
  rcases w with w|w|w
  ·omega
  ·omega
  exact ⟨w.2.1,w.2.2.2.2.1⟩
 have e:u=m:=Qc4 a1 a2 a3 (w.1.trans m4.symm) (by omega) (by omega) (q3.symm.trans m7.symm)
 refine ⟨by rw [q4];rfl,?_⟩
 rw [← e];exact hu.2.1
end Go.Vx
namespace Go.Proofs
open Go Go.Vx Go.RowKit
open Tryz
namespace Tt
theorem Qtu {a b:List Int} (ha:a.length=4) (hb:b.length=4):EqF prog 2 217 (.agg (q4 a).toArray) (.agg (q4 b).toArray) (decide (a=b)):=Qux underlying217 type5 rfl runUnderlying5 ⟨sizeOf5,isAgg5⟩ ha hb
theorem QkG:En prog 118:=call118
theorem QqZ:En prog 164:=call164
end Tt
end Go.Proofs
namespace Go.Vx
open Go.RowKit
structure Rdv where
 a:Option Addr
 c:Nat
 e:Int
 l:Bs
def rve (x:Rdv):List Value:=[.slice x.a x.l.length x.c,.int .i64 x.e]
theorem Qbn (x:Rdv):∀ u∈rve x,u.oneCell'=true:=by
 intro u hu
 simp only [rve,List.mem_cons,List.not_mem_nil,or_false] at hu
 rcases hu with rfl|rfl<;>rfl
def Rdv.r (x:Rdv):Rdr:=⟨x.e.toNat,x.l⟩
def Rdv.ok (w:World) (x:Rdv):Prop:=Rd w (.slice x.a x.l.length x.c) 1 (x.l.map (ic .u8))/\QaZ x.l/\0<=x.e
def Rdv.cut (x:Rdv) (k:Nat):Rdv:=⟨sla x.a k x.c 1,x.c-k,x.e,x.l.drop k⟩
theorem Rdv.cut_ok {w:World} {x:Rdv} (h:x.ok w) {k:Nat} (hk:k<=x.l.length):(x.cut k).ok w:=by
 obtain ⟨h1,h2,h3⟩:=h
 exact ⟨h1.dropM k hk _ (by show (x.l.drop k).length=_;rw [List.length_drop]),h2.drop k,h3⟩
def Rdv.num (x:Rdv):Rdv:=if x.e≠0 then x else if (Qai 0 0 x.l).2.2≠0 then ⟨x.a,x.c,((Qai 0 0 x.l).2.2:Int),x.l⟩ else x.cut (Qai 0 0 x.l).2.1
theorem Qj6 {l:Bs} (ok:QaZ l) (h:(Qai 0 0 l).2.2=0):(Qai 0 0 l).2.1<=l.length:=by
 obtain ⟨h1,h2,_⟩:=QgW (l:=l) (n:=(Qai 0 0 l).1) (k:=(Qai 0 0 l).2.1) ok (Prod.ext rfl (Prod.ext rfl h))
 have:=congrArg List.length h1
 rw [QQ7] at this
 omega
theorem Rdv.num_ok {w:World} {x:Rdv} (h:x.ok w):x.num.ok w:=by
 unfold Rdv.num
 split
 ·exact h
 split
 ·exact ⟨h.1,h.2.1,by show (0:Int)<=((_:Nat):Int);omega⟩
 rename_i h1 h2
 exact Rdv.cut_ok h (Qj6 h.2.1 (by simpa using h2))
theorem Rdv.num_bad {x:Rdv} (h:¬x.e=0) (h0:0<=x.e):x.num=x/\Qaj x.r=(0,x.r.e,x.r)/\((x.r.e:Nat):Int)=x.e:=by
 refine ⟨?_,?_,?_⟩
 ·unfold Rdv.num;rw [if_pos h]
 ·unfold Qaj
  rw [if_pos (show x.r.e≠0 by show x.e.toNat≠0;omega)]
 show ((x.e.toNat:Nat):Int)=_;omega
theorem Rdv.num_err {x:Rdv} (h1:x.e=0) (h2:¬(Qai 0 0 x.l).2.2=0):x.num=⟨x.a,x.c,((Qai 0 0 x.l).2.2:Int),x.l⟩/\Qaj x.r=(0,(Qai 0 0 x.l).2.2,⟨(Qai 0 0 x.l).2.2,x.l⟩):=by
 refine ⟨?_,?_⟩
 ·unfold Rdv.num;rw [if_neg (by omega),if_pos h2]
 unfold Qaj
 rw [if_neg (show ¬x.r.e≠0 by show ¬x.e.toNat≠0;omega),if_pos (show (Qai 0 0 x.r.l).2.2≠0 from h2)]
 rfl
theorem Rdv.num_good {x:Rdv} (h1:x.e=0) (h2:(Qai 0 0 x.l).2.2=0):x.num=x.cut (Qai 0 0 x.l).2.1/\Qaj x.r=((Qai 0 0 x.l).1,0,⟨0,x.l.drop (Qai 0 0 x.l).2.1⟩):=by
 refine ⟨?_,?_⟩
 ·unfold Rdv.num;rw [if_neg (by omega),if_neg (by omega)]
 unfold Qaj
 rw [if_neg (show ¬x.r.e≠0 by show ¬x.e.toNat≠0;omega),if_neg (show ¬(Qai 0 0 x.r.l).2.2≠0 by show ¬(Qai 0 0 x.l).2.2≠0;omega)]
 rfl
theorem Rdv.num_r {w:World} {x:Rdv} (h:x.ok w):x.num.r=(Qaj x.r).2.2:=by
 have h0:=h.2.2
 by_cases h1:x.e=0
 ·by_cases h2:(Qai 0 0 x.l).2.2=0
  ·obtain ⟨A,B⟩:=Rdv.num_good h1 h2
   rw [A,B]
   show (⟨x.e.toNat,_⟩:Rdr)=_
   rw [h1];rfl
  obtain ⟨A,B⟩:=Rdv.num_err h1 h2
  rw [A,B]
  show (⟨Int.toNat _,_⟩:Rdr)=_
  rw [Int.toNat_natCast]
 obtain ⟨A,B,_⟩:=Rdv.num_bad h1 h0
 rw [A,B]
def Rdv.lng (x:Rdv):Nat:=(Qaj x.r).1
def Rdv.good (x:Rdv):Prop:=(Qaj x.r).2.1=0/\x.lng<=x.num.l.length
instance (x:Rdv):Decidable x.good:=inferInstanceAs (Decidable (_/\_))
def Rdv.byt (x:Rdv):Rdv:=if (Qaj x.r).2.1≠0 then x.num else if x.num.l.length<x.lng then ⟨x.num.a,x.num.c,4,x.num.l⟩ else x.num.cut x.lng
def Rdv.ba (x:Rdv):Option Addr:=if x.good then sla x.num.a 0 x.num.c 1 else none
def Rdv.bc (x:Rdv):Nat:=if x.good then x.num.c-0 else 0
theorem Rdv.bytR_no {w:World} {x:Rdv} (h:x.ok w) (hg:¬(Qaj x.r).2.1=0):QaT x.r=([],(Qaj x.r).2.1,x.num.r)/\x.byt=x.num/\¬x.good:=by
 refine ⟨?_,?_,fun hh=>hg hh.1⟩
 ·unfold QaT;rw [if_pos hg,Rdv.num_r h]
 unfold Rdv.byt;rw [if_pos hg]
theorem Rdv.bytR_short {w:World} {x:Rdv} (h:x.ok w) (hg:(Qaj x.r).2.1=0) (hl:x.num.l.length<x.lng):QaT x.r=([],4,⟨4,x.num.l⟩)/\x.byt=⟨x.num.a,x.num.c,4,x.num.l⟩/\¬x.good:=by
 refine ⟨?_,?_,fun hh=>by have:=hh.2;omega⟩
 ·unfold QaT
  rw [if_neg (by simpa using hg),← Rdv.num_r h]
  rw [if_pos (show x.num.r.l.length<(Qaj x.r).1 from hl)]
  rfl
 unfold Rdv.byt;rw [if_neg (by simpa using hg),if_pos hl]
theorem Rdv.num_e {w:World} {x:Rdv} (h:x.ok w) (hg:(Qaj x.r).2.1=0):x.num.e=0:=by
 have h1:(Qaj x.r).2.2.e=0:=by rw [← Qc2];exact hg
 rw [← Rdv.num_r h] at h1
 have h2:=(Rdv.num_ok h).2.2
 have:x.num.e.toNat=0:=h1
 omega
theorem Rdv.bytR_yes {w:World} {x:Rdv} (h:x.ok w) (hg:(Qaj x.r).2.1=0) (hl:¬x.num.l.length<x.lng):QaT x.r=(x.num.l.take x.lng,0,⟨0,x.num.l.drop x.lng⟩)/\x.byt=x.num.cut x.lng/\x.good:=by
 refine ⟨?_,?_,⟨hg,by omega⟩⟩
 ·unfold QaT
  rw [if_neg (by simpa using hg),← Rdv.num_r h]
  rw [if_neg (show ¬x.num.r.l.length<(Qaj x.r).1 from hl)]
  rfl
 unfold Rdv.byt;rw [if_neg (by simpa using hg),if_neg hl]
theorem Rdv.byt_ok {w:World} {x:Rdv} (h:x.ok w):x.byt.ok w/\x.byt.r=(QaT x.r).2.2/\Rd w (.slice x.ba (QaT x.r).1.length x.bc) 1 ((QaT x.r).1.map (ic .u8)):=by
 have hn:=Rdv.num_ok h
 by_cases hg:(Qaj x.r).2.1=0
 ·by_cases hl:x.num.l.length<x.lng
  ·obtain ⟨h1,h2,h3⟩:=Rdv.bytR_short h hg hl
   rw [h1,h2]
   unfold Rdv.ba Rdv.bc
   rw [if_neg h3,if_neg h3]
   exact ⟨⟨hn.1,hn.2.1,by show (0:Int)<=4;omega⟩,rfl,Rd.nil w 1⟩
  obtain ⟨h1,h2,h3⟩:=Rdv.bytR_yes h hg hl
  rw [h1,h2]
  unfold Rdv.ba Rdv.bc
  rw [if_pos h3,if_pos h3]
  refine ⟨Rdv.cut_ok hn (by omega),?_,?_⟩
  ·show (⟨x.num.e.toNat,_⟩:Rdr)=_
   rw [Rdv.num_e h hg];rfl
  have:=hn.1.subM 0 x.lng x.num.c (by omega) (by omega) (Nat.le_trans (show x.lng<=x.num.l.length by omega) (Rd.roomM hn.1)) (Nat.le_refl _) (x.num.l.take x.lng).length (by rw [List.length_take];omega)
  simpa using this
 obtain ⟨h1,h2,h3⟩:=Rdv.bytR_no h hg
 rw [h1,h2]
 unfold Rdv.ba Rdv.bc
 rw [if_neg h3,if_neg h3]
 exact ⟨hn,rfl,Rd.nil w 1⟩
theorem Rdv.own {w0 w:World} {L:List Res} {x:Rdv} (h:x.ok w0) (hs:Own w0 no w L):x.ok w:=⟨h.1.own' hs,h.2⟩
def fA (a:Option Addr) (c:Nat) (l:Bs):Option Addr:=if (QaP l).2.2=0 then sla a (Qai 0 0 l).2.1 c 1 else none
def fC (c:Nat) (l:Bs):Nat:=if (QaP l).2.2=0 then c-(Qai 0 0 l).2.1 else 0
theorem QpI {w:World} {a:Option Addr} {c:Nat} {l:Bs} (h:Rd w (.slice a l.length c) 1 (l.map (ic .u8))):Rd w (.slice (fA a c l) (QaP l).1.length (fC c l)) 1 ((QaP l).1.map (ic .u8)):=by
 have key:∀ r,QaP l=r->Rd w (.slice (if r.2.2=0 then sla a (Qai 0 0 l).2.1 c 1 else none) r.1.length (if r.2.2=0 then c-(Qai 0 0 l).2.1 else 0)) 1 (r.1.map (ic .u8)):=by
  intro r hr
  unfold QaP at hr
  split at hr
  ·rename_i h1
   subst hr
   simp only
   rw [if_neg h1,if_neg h1]
   exact Rd.nil w 1
  split at hr
  ·subst hr;exact Rd.nil w 1
  split at hr
  ·subst hr;exact Rd.nil w 1
  rename_i h2 h3
  split at hr
  ·subst hr;exact Rd.nil w 1
  subst hr
  simp only
  rw [if_pos trivial,if_pos trivial]
  have:=h.subM (Qai 0 0 l).2.1 ((Qai 0 0 l).2.1+(Qai 0 0 l).1) c (by omega) (by omega) (Nat.le_trans (show (Qai 0 0 l).2.1+(Qai 0 0 l).1<=l.length by omega) (Rd.roomM h)) (Nat.le_refl _) ((l.drop (Qai 0 0 l).2.1).take (Qai 0 0 l).1).length (by rw [List.length_take,List.length_drop];omega)
  rw [Nat.add_sub_cancel_left] at this
  exact this
 exact key _ rfl
section
variable {P:Program} {n:Nat} {J:Env} {w:World} {fn:Func}
theorem Qdg {w0:World} {M:Nat->Prop} {L:List Res} {p t k b s r:Nat} {cs:List Value} {T:TypeId} {U V:Value} (h:fn.results = #[.cell p t,.tmp s,.tmp r]) (ht:TA P t k) (hs:Own w0 M w L) (i:Nat) (hi:L[i]?=some (blk b cs T)) (hp:ev n J (.tmp p) = .pointer (some ⟨b,0,none⟩)) (hl:cs.length=k) (hu:ev n J (.tmp s)=U) (hv:ev n J (.tmp r)=V) :
  (results fn (fr n J).tmps).run P w = .ok (.tuple #[.agg cs.toArray,U,V]) w:=by
 have h1:=Qcz (n:=n) (J:=J) p
 have h2:=Qcz (n:=n) (J:=J) s
 have h3:=Qcz (n:=n) (J:=J) r
 rw [hp] at h1
 rw [hu] at h2
 rw [hv] at h3
 simp only [Array.getD_eq_getD_getElem?] at h1 h2 h3
 simp [results,h,h1,h2,h3,asAddr,QdT ht hs i hi hl]
end
theorem Kept.rdN {w:World} {S:Nat->Prop} {v:Value} {ls:List (List Value)} {E k:Nat} (h:Kept w S (row v ls E k)):Rd w v k ls/\(ls≠[]->¬S (bkS v)):=by
 obtain ⟨T',hk,hd⟩:=h
 refine ⟨Rd.of_row hk,fun hne hS=>?_⟩
 obtain ⟨_,hown,hT⟩:=hk
 rcases hown.2 with ⟨hv,hn⟩|⟨g,cap,cur,hv,_⟩
 ·exact hne (List.eq_nil_of_length_eq_zero (by simpa using hn))
 subst hv;exact hd g hS (hT g rfl)
theorem Kept.rdB {w:World} {S:Nat->Prop} {a:Option Addr} {c B:Nat} {l:Bs} (h:Kept w S (row (.slice a l.length c) (l.map (ic .u8)) B 1)):RdB w S ⟨a,c,l⟩ :=
 ⟨h.rdN.1,fun hne=>h.rdN.2 fun e=>hne (by simpa using e)⟩
theorem RdB.ofM {w0 w:World} {M S:Nat->Prop} {L:List Res} {x:Bsl} (h:RdB w0 M x) (hs:Own w0 M w L) (hM:∀ b,S b->b<w0.heap.size->M b):RdB w S x :=
 ⟨h.own hs,fun hne hS=>h.2 hne (hM _ hS (h.1.bk_lt (by
  rw [QQ6]
  rcases Nat.eq_zero_or_pos x.l.length with h|h
  ·exact absurd (List.eq_nil_of_length_eq_zero h) hne
  ·exact h)))⟩
section
variable {P:Program} {ty:TypeId} {e:Operand->Value} {w:World} {K:Value->World->Prop} {w0:World} {M:Nat->Prop} {L:List Res}
theorem Qfr {α:Type} {f:FuncId} {xs:List Operand} {vs:List Value} {ats:Array TypeId} {V:α->Value} {R:Res} {R':α->Res} {Lo:α->List Res} {F:α->World->Prop} (hf:En P f) (hef:e (.func f) = .func (.func f) #[] #[]) (hv:xs.map e=vs)
  (hs:Own w0 M w L) (i:Nat) (hi:L[i]?=some R)
  (hc:∀ S,R.holds w S->(∀ b,S b->b<w.heap.size)->(∀ b,S b->b<w0.heap.size->M b)->(∀ j,j≠i->∀ Rj,L[j]?=some Rj->Kept w S Rj)->Calls P f vs.toArray w fun r w'=>∃ x,r = .returned (V x)/\Own w S w' (R' x :: Lo x)/\F x w') (h:∀ x w',Own w0 M w' (L.set i (R' x)++Lo x)->F x w'->K (V x) w') :
  opW P (.call { callee:=.value (.func f),args:=xs.toArray,argTypes:=ats }) ty e w K:=by
 obtain ⟨S,hR,hlt,hSM,hd,hback⟩:=hs.lend3 i hi
 exact Qhb hf hef (by rw [List.map_toArray,hv]) ((hc S hR hlt hSM hd).mono fun r w' ⟨x,hr,ho,hF⟩=>⟨V x,hr,h x w' (hback w' _ _ ho) hF⟩)
end
theorem QlC {T B p:Nat} {w w0:World} {M:Nat->Prop} {a:Option Addr} {c e:Nat} {l:Bs} {R:Res} (h:Own w0 M w [blk p [.bool true,.int .i64 (e:Int),byv a l c] T,row (byv a l c) (l.map (ic .u8)) B 1,R]):Own w0 M w [wR T B p e l,R] :=
 ((h.join 0 1 (by decide) rfl rfl).conv (R':=wR T B p e l) 0 rfl fun _ h=>⟨(a,c),h⟩).sel [0,2] (by decide) rfl
theorem QpL {T p:Nat} {w w0:World} {M:Nat->Prop} {a:Option Addr} {c e:Nat} {l:Bs} {R:Res} (h:Own w0 M w [blk p [.bool true,.int .i64 (e:Int),byv a l c] T,rdR (byv a l c) 1 (l.map (ic .u8)),R]):Own w0 M w [rR T p ⟨e,l⟩,R] :=
 ((h.join 0 1 (by decide) rfl rfl).conv (R':=rR T p ⟨e,l⟩) 0 rfl fun _ h=>⟨(a,c),h⟩).sel [0,2] (by decide) rfl
theorem Qnl {T p:Nat} {w w0:World} {M:Nat->Prop} {a:Option Addr} {c e k n':Nat} {l:Bs} {R:Res} (h:Own w0 M w [blk p [.bool true,.int .i64 (e:Int),.slice (sla a k c 1) n' (c-k)] T,rdR (byv a l c) 1 (l.map (ic .u8)),R]) (hk:k<=l.length) (hn:n'=(l.drop k).length):Own w0 M w [rR T p ⟨e,l.drop k⟩,R]:=by
 have:=h.conv 1 (R':=rdR (byv (sla a k c 1) (l.drop k) (c-k)) 1 ((l.drop k).map (ic .u8))) rfl fun _ h=>QkO h hk rfl
 subst hn
 exact QpL this
section
variable {P:Program} {ty:TypeId} {e:Operand->Value} {w:World} {K:Value->World->Prop} {w0:World} {M:Nat->Prop} {L:List Res}
theorem QlK {α:Type}:∀ {l:List α} {i:Nat} {x:α},l[i]?=some x->l.set i x=l
 | [],_,_,h=>by simp at h
 | a :: l,0,x,h=>by simp at h;simp [h]
 | a :: l,i+1,x,h=>by
  simp only [List.getElem?_cons_succ] at h
  simp only [List.set_cons_succ,QlK h]
theorem QgB {f:FuncId} {xs:List Operand} {vs:List Value} {ats:Array TypeId} {V:Value} {R:Res} (hf:En P f) (hef:e (.func f) = .func (.func f) #[] #[]) (hv:xs.map e=vs)
  (hs:Own w0 M w L) (i:Nat) (hi:L[i]?=some R)
  (hc:∀ S,R.holds w S->(∀ b,S b->b<w.heap.size)->Calls P f vs.toArray w fun r w'=>∃ _:Unit,r = .returned V/\Own w S w' [R]/\True) (h:∀ w',Own w0 M w' L->K V w') :
  opW P (.call { callee:=.value (.func f),args:=xs.toArray,argTypes:=ats }) ty e w K :=
 Qa7 (α:=Unit) (V:=fun _=>V) (R':=fun _=>R) (Lo:=fun _=>[]) (F:=fun _ _=>True) hf hef hv hs i hi hc fun _ w' h' _=>h w' (by
  have h2:L.set i R++[]=L:=by rw [List.append_nil,QlK hi]
  rw [h2] at h';exact h')
end
def Qge (e:Nat) (l x:Bs):Nat × Bs:=if e≠0 then (e,l) else if 65536<l.length+x.length then (3,l) else (0,l++x)
end Go.Vx
namespace Go.Proofs
open Go Go.Vx Go.RowKit
open Tryz
namespace Tt
theorem QbD:T1 prog 30:=⟨sizeOf30,isAgg30⟩
theorem QaW:TA prog 174 2:=⟨sizeOf174,isAgg174⟩
theorem QjI:En prog 160:=call160
theorem QlI:En prog 163:=call163
theorem QqO:En prog 168:=call168
theorem QuF:En prog 233:=call233
theorem QhR:En prog 85:=call85
theorem Qdw:FA prog 174 0 0:=fun b o w=>by simp [Instr.fieldAt,Instr.sureAddr,fieldPlace,QaR]
theorem Qf1:FA prog 174 1 1:=fun b o w=>by simp [Instr.fieldAt,Instr.sureAddr,fieldPlace,QaR]
theorem Qda:Zv prog 174 (.agg (rve (⟨none,0,0,[]⟩:Rdv)).toArray):=zeroValue174
end Tt
end Go.Proofs
namespace Go.Proofs
open Go Go.Vx Go.RowKit
open Tryz
namespace Tt
theorem Qul:En prog 244:=call244
theorem Qlu:Ud prog 306 (.slice 30):=runUnderlying306
theorem Qwr:Zv prog 5 (.int .u8 0):=zeroValue5
end Tt
end Go.Proofs
namespace Go.Proofs
open Go Go.Vx Go.RowKit
open Tryz
namespace Tt
theorem QgQ:T1 prog 31:=⟨sizeOf31,isAgg31⟩
theorem Qtc:T1 prog 4:=⟨sizeOf4,isAgg4⟩
theorem Qre:Bt prog 210 [(0,1),(1,1)] ([.bool false,.int .i64 0]):=Qcf type210 rfl rfl underlying210 (by kernel_rfl)
theorem Qtt:Bt prog 212 [(0,2),(2,1)] ([.bool false,.int .i64 0,.slice none 0 0]):=Qcf type212 rfl rfl underlying212 (by kernel_rfl)
theorem Qrb:El prog 306 30 1 24:=⟨underlying306,_,_,type30,rfl,rfl,rfl,rfl,by decide⟩
theorem QqI:En prog 116:=call116
theorem QoD:En prog 166:=call166
theorem QtL:En prog 187:=call187
theorem Qf2:FA prog 210 0 0:=fun b o w=>by simp [Instr.fieldAt,Instr.sureAddr,fieldPlace,QaR]
theorem Qcc:FA prog 210 1 1:=fun b o w=>by simp [Instr.fieldAt,Instr.sureAddr,fieldPlace,QaR]
theorem Qdv:FA prog 212 0 0:=fun b o w=>by simp [Instr.fieldAt,Instr.sureAddr,fieldPlace,QaR]
theorem Qgg:FA prog 212 1 2:=fun b o w=>by simp [Instr.fieldAt,Instr.sureAddr,fieldPlace,QaR]
theorem Qqx:Ud prog 127 (.pointer 212):=runUnderlying127
end Tt
end Go.Proofs
namespace Go.Vx
structure Stc where
 what:Int
 a:Int
 b:Int
 n:Int
 kind:Int
 at_:Int
 by_:Int
 op:Opn
 vec:Vec
 cuts:Bs
def opz:Opn:=⟨⟨0,0⟩,0,0,0,0,0,vzero⟩
def stcz:Stc:=⟨0,0,0,0,0,0,0,opz,vzero,[]⟩
end Go.Vx
namespace Go.Vx
open Go.RowKit
structure Stp where
 c:Stc
 a:Option Addr
 n:Nat
instance:Inhabited Stp:=⟨⟨stcz,none,0⟩⟩
theorem Own.unex {w0 w:World} {M:Nat->Prop} {L:List Res} {α:Type} {f:α->Res} (h:Own w0 M w L) (i:Nat) (hi:L[i]?=some (exR f)):∃ a,Own w0 M w (L.set i (f a)):=by
 obtain ⟨h1,h2,h3,h4,h5,S,h6,h7,h8,h9⟩:=h
 obtain ⟨a,ha⟩:=h6 i _ hi
 refine ⟨a,h1,h2,h3,h4,h5,S,fun k R hk=>?_,h7,h8,h9⟩
 rw [List.getElem?_set] at hk
 by_cases hki:i=k
 ·subst hki
  rw [if_pos rfl] at hk
  split at hk
  ·cases hk;exact ha
  cases hk
 rw [if_neg hki] at hk;exact h6 k R hk
end Go.Vx
namespace Go.Proofs
open Go Go.Vx Go.RowKit
open Tryz
namespace Tt
theorem Qto:Bt prog 281 [(0,2),(2,1)] ([.bool false,.int .i64 0,.slice none 0 0]):=Qcf type281 rfl rfl underlying281 (by kernel_rfl)
theorem Qjy:En prog 165:=call165
theorem Qdp:FA prog 281 0 0:=fun b o w=>by simp [Instr.fieldAt,Instr.sureAddr,fieldPlace,QaR]
theorem QcU:FA prog 281 1 2:=fun b o w=>by simp [Instr.fieldAt,Instr.sureAddr,fieldPlace,QaR]
theorem QqD:Ud prog 164 (.pointer 281):=runUnderlying164
end Tt
end Go.Proofs
namespace Go.Vx
open Go.RowKit
def Qqj (v:Vec) (n:Nat):List Int:=(List.range n).map (vat v)
theorem Qir (v:Vec) (n:Nat):(Qqj v n).length=n:=by simp [Qqj]
theorem Qsc {v:Vec} {n i:Nat} (h:i<n):gd (Qqj v n) i=vat v i:=by
 simp [gd,Qqj,List.getD_eq_getElem?_getD,h]
theorem Qa8.rdV {w:World} {b n:Nat} {v:Vec} (h:Qa8 w b (vc v)) (hn:n<=16):Rd w (.slice (some ⟨b,0,none⟩) n 16) 1 ((Qqj v n).map (ic .u32)):=by
 have hl:((Qqj v n).map (ic .u32)).length=n:=by rw [QQ6,Qir]
 refine ⟨by simp [ic],by rw [hl];omega,.inr ⟨b,0,16,by rw [hl]⟩,fun i j m u hi hj=>?_,by rw [hl];exact hn⟩
 have hin:i<n:=by have:=Qav hi;omega
 simp only [List.getElem?_map,Qqj,List.getElem?_range hin,Option.map_some,Option.some.injEq] at hi
 subst hi
 have hj0:j=0:=by have:=Qav hj;simp [ic] at this;omega
 subst hj0
 simp [ic] at hj;subst hj
 show w.cell? ⟨b,0+i*1+0,none⟩=_
 rw [Nat.zero_add,Nat.mul_one,Nat.add_zero]
 exact h i _ (QjH v i (by omega))
section
variable {P:Program} {ty:TypeId} {e:Operand->Value} {w:World} {K:Value->World->Prop}
theorem Qmj {t el n b h:Nat} {j:IntKind} {x y:Operand} (ht:P.underlying t=some (.array n el)) (hk:Sz P el 1) (hx:e x = .pointer (some ⟨b,0,none⟩)) (hy:e y = .int j (h:Int)) (hn:h<=n) (hK:K (.slice (some ⟨b,0,none⟩) h n) w):opW P (.slice t x none (some y) none) ty e w K:=by
 have hel:P.elem t=el:=by simp [Program.elem,ht]
 have hal:P.arrayLen t=n:=by simp [Program.arrayLen,ht]
 have ht':P.underlying t=some (.array (P.arrayLen t) (P.elem t)):=by rw [hel,hal];exact ht
 have hat:(Instr.sliceAt t (.pointer (some ⟨b,0,none⟩)) none (some (e y)) none).run P w = .ok (.slice (some ⟨b,0,none⟩) h n) w:=by
  rw [hy,run_sliceAt_array_h w t _ ht' j (h:Int) (by omega) (by rw [hal];omega),hel,hk w,hal]
  show Result.ok (slicedAt ⟨b,0,none⟩ 0 ((h:Int).toNat) n 1) w=_
  unfold slicedAt
  rw [Int.toNat_natCast]
  split
  ·simp
  simp [Addr.add]
 refine QaO (w':=w) ?_ hK
 simp only [execOp,hx,Option.map_none,Option.map_some,Sem.run_bind,hat,Result.andThen_ok,Sem.run_pure]
end
theorem Qm7 {l x:Bs} (h:l.length+x.length<=65536):Qge 0 l x=(0,l++x):=by unfold Qge;rw [if_neg (by omega),if_neg (by omega)]
theorem QmL {v:Vec} {n:Nat} (h:n=0∨¬vat v (n-1)=0):Qde v n=n:=by
 cases n with
 | zero=>rfl
 | succ n =>
  rcases h with h|h
  ·cases h
  show (if vat v n=0 then Qde v n else n+1)=n+1
  rw [Nat.add_sub_cancel] at h
  rw [if_neg h]
theorem QlZ {v:Vec} {n:Nat} (h0:0<n) (h:vat v (n-1)=0):Qde v n=Qde v (n-1):=by
 cases n with
 | zero=>omega
 | succ n =>
  show (if vat v n=0 then Qde v n else n+1)=Qde v n
  rw [Nat.add_sub_cancel] at h
  rw [if_pos h]
section
variable {b:Bs}
theorem Qp9 {k:Nat} (h16:(Qaj ⟨0,b⟩).1<=16) (hk:k<(Qaj ⟨0,b⟩).1) (hx:¬(Qaj (QaL k (Qaj ⟨0,b⟩).2.2).2).2.1=0):QcA b vzero 5:=by
 refine .inr ⟨rfl,rfl,fun u hu e=>hx ?_⟩
 have h1:=QcM hu []
 rw [List.append_nil,← e,List.append_nil] at h1
 rw [h1] at hk ⊢
 simp only at hk ⊢
 have h2:=Qfq (k:=k+1) (m:=[]) (Qd7 hu (vlen u)) (by rw [Qci];omega)
 rw [List.append_nil] at h2
 have h3:(QaL (k+1) ⟨0,QbA (vnums u (vlen u))⟩).2=(Qaj (QaL k ⟨0,QbA (vnums u (vlen u))⟩).2).2.2:=rfl
 rw [Qc2,← h3,h2]
theorem QpK {u:Vec} (he:(Qaj ⟨0,b⟩).2.1=0) (h16:(Qaj ⟨0,b⟩).1<=16) (hu:u=QgO (((QaL (Qaj ⟨0,b⟩).1 (Qaj ⟨0,b⟩).2.2).1).map (·%4294967296))):(QaF u=b->QcA b u 0)/\(¬QaF u=b->QcA b vzero 5):=by
 have hok:Qbw u:=by
  rw [hu]
  refine Qkw fun n hn=>?_
  obtain ⟨m,_,rfl⟩:=List.mem_map.1 hn
  omega
 refine ⟨fun h=>.inl ⟨rfl,hok,h.symm⟩,fun h=>.inr ⟨rfl,rfl,fun v hv e=>h ?_⟩⟩
 have h1:=QcM hv []
 rw [List.append_nil,← e,List.append_nil] at h1
 have h2:=Qd0 (vnums v (vlen v)) [] (Qd7 hv _)
 rw [Qci,List.append_nil] at h2
 rw [h1] at hu
 simp only at hu
 rw [h2] at hu
 have h3:(vnums v (vlen v)).map (·%4294967296)=vnums v (vlen v):=by
  refine (List.map_congr_left fun n hn=>?_).trans (List.map_id _)
  exact Nat.mod_eq_of_lt (Qgi hv _ n hn)
 rw [show (vnums v (vlen v),(⟨0,[]⟩:Rdr)).1=vnums v (vlen v) from rfl,h3,Qd8 hv (k:=vlen v) (fun i a b=>QcI (n:=16) a b)] at hu
 rw [hu,e]
end
theorem Qjo {l:List Nat} {k n:Nat} (h:l.length=k):vset (QgO l) k (n:Int)=QgO (l++[n]):=by
 subst h;exact Qod l n
end Go.Vx
namespace Go.Proofs
open Go Go.Vx Go.RowKit
open Tryz
namespace Tt
theorem QsS:En prog 46:=call46
theorem Qjq:En prog 47:=call47
theorem QoJ:En prog 51:=call51
theorem Qrv:Ud prog 66 (.slice 34):=runUnderlying66
theorem QqM:prog.underlying 36=some (.array 16 34):=underlying36
end Tt
end Go.Proofs
namespace Go.Proofs
open Go Go.Vx Go.RowKit
open Tryz
namespace Tt
theorem Qjw:Bt prog 36 [(0,1),(1,1),(2,1),(3,1),(4,1),(5,1),(6,1),(7,1),(8,1),(9,1),(10,1),(11,1),(12,1),(13,1),(14,1),(15,1)] (vc vzero):=Qid type36 rfl rfl underlying36 type34 rfl (k:=1) rfl
theorem Qsq:En prog 78:=call78
theorem Qot:En prog 83:=call83
end Tt
end Go.Proofs
namespace Go.Proofs
open Go Go.Vx Go.RowKit
open Tryz
namespace Tt
theorem QnG:Bt prog 174 [(0,1),(1,1)] (rve (⟨none,0,0,[]⟩:Rdv)):=Qcf type174 rfl rfl underlying174 (by kernel_rfl)
theorem Qm1:En prog 161:=call161
end Tt
end Go.Proofs
namespace Go.Vx
open Go.RowKit
theorem QvL {l:List Int} {i:Nat} (h:i<l.length):(l.map (Value.int .u64))[i]?=some (.int .u64 (gd l i)):=by
 simp [gd,List.getD_eq_getElem?_getD,h]
def q7 (l:List Int):List Value:=l.map (Value.int .u64)
theorem QlM {o:Opn} (ok:QbK o) {k:Nat} (hk:k<7):gd [o.dot.rep,o.dot.seq,o.kind,o.cart,o.item,o.qty,o.tick] k=(((Qb5 o).getD k 0:Nat):Int):=by
 obtain ⟨⟨⟨a1,a2⟩,a3,a4⟩,⟨b1,b2⟩,⟨c1,c2⟩,⟨d1,d2⟩,⟨e1,e2⟩,⟨f1,f2⟩,_⟩:=ok
 have:k=0∨k=1∨k=2∨k=3∨k=4∨k=5∨k=6:=by omega
 rcases this with rfl|rfl|rfl|rfl|rfl|rfl|rfl<;>simp [gd,Qb5]<;>omega
theorem QiE {o:Opn} (ok:QbK o) {k:Nat} (hk:k<7):(Qb5 o).getD k 0<18446744073709551616:=by
 rw [Ql9 (by exact hk)]
 exact Qik ok _ (List.getElem_mem _)
theorem QhH {l:List Nat} {k:Nat} (h:k<l.length):QbA (l.take (k+1))=QbA (l.take k)++Qan (l.getD k 0):=by
 rw [List.take_add_one,List.getElem?_eq_getElem h,Ql9 h]
 exact Qed _ _
theorem QcA.vok {b:Bs} {v:Vec} {e:Nat} (h:QcA b v e):Qbw v:=by
 rcases h with ⟨_,h,_⟩|⟨_,rfl,_⟩
 ·exact h
 intro i;simp [vzero]
def rdN (l:Bs) (i:Nat):Rdr:=(QaL i ⟨0,l⟩).2
theorem Qp3 (l:Bs) (i:Nat):(Qaj (rdN l i)).2.2=rdN l (i+1):=rfl
theorem Qh4 {r:Rdr}:(Qaj r).2.2.l.length<=r.l.length:=by
 unfold Qaj
 split
 ·exact Nat.le_refl _
 split
 ·exact Nat.le_refl _
 rw [List.length_drop];omega
theorem Qlm {r:Rdr}:∀ k,(QaL k r).2.l.length<=r.l.length
 | 0=>Nat.le_refl _
 | k+1=>Nat.le_trans Qh4 (Qlm k)
theorem Qng (l:Bs) (i:Nat):(rdN l i).l.length<=l.length:=Qlm (r:=⟨0,l⟩) i
theorem QqK {l:Bs} (ok:QaZ l) (i:Nat):QaZ (rdN l i).l:=Qdi (r:=⟨0,l⟩) ok i
theorem Qqz {b:Bs} {u:Opn} (h:IsO b u):(∀ k,k<=7->(rdN b k).e=0)/\QaT (rdN b 7)=(QaF u.ctx,0,⟨0,[]⟩)/\FitO b/\u=opD b u.ctx:=by
 unfold rdN
 exact QgS h
theorem Qr0 {b:Bs} {v:Vec} {e:Nat} (ok:QaZ b) (he:(QaT (rdN b 7)).2.2.e=0) (hd:(QaT (rdN b 7)).2.2.l=[]) (hf:FitO b) (hv:QcA (QaT (rdN b 7)).1 v e):(e=0/\QaI (opD b v)=true->Qef b (opD b v) 0)/\(¬(e=0/\QaI (opD b v)=true)->Qef b Qhg 5):=by
 unfold rdN at he hd hv
 exact Qp2 ok he hd hf hv
theorem Qs6 {b:Bs} {v:Vec} {e:Nat} (hv:QcA (QaT (rdN b 7)).1 v e):(e=0/\QaI (opT b v)=true/\Qbr (opT b v)=b->Qef b (opT b v) 0)/\(¬(e=0/\QaI (opT b v)=true/\Qbr (opT b v)=b)->Qef b Qhg 5):=by
 unfold rdN at hv
 exact Qqh hv
def Qh3 (l:Bs) (i bits:Nat):Prop:=(Qaj (rdN l i)).2.1=0/\nO l i<2 ^ bits
def TkF (l:Bs) (i bits:Nat) (B:Bool) (y:Bool × Nat):Prop:=y.2=nO l i/\(y.1=false↔B=false/\Qh3 l i bits)
theorem TkF.n {l:Bs} {i bits:Nat} {B:Bool} {y:Bool × Nat} (h:TkF l i bits B y):y.2=nO l i:=h.1
theorem TkF.b {l:Bs} {i bits:Nat} {B:Bool} {y:Bool × Nat} (h:TkF l i bits B y):y.1=false↔B=false/\Qh3 l i bits:=h.2
theorem QrL {l:Bs} {b1 b2 b3 b4 b5 b6 b7:Bool} (h1:b1=false↔false=false/\Qh3 l 0 8) (h2:b2=false↔b1=false/\Qh3 l 1 32) (h3:b3=false↔b2=false/\Qh3 l 2 8) (h4:b4=false↔b3=false/\Qh3 l 3 16) (h5:b5=false↔b4=false/\Qh3 l 4 16) (h6:b6=false↔b5=false/\Qh3 l 5 16) (h7:b7=false↔b6=false/\Qh3 l 6 32) :
  (b7=false->FitO l)/\((∀ k,k<=7->(rdN l k).e=0)->FitO l->b7=false):=by
 refine ⟨fun h=>?_,fun he hf=>?_⟩
 ·obtain ⟨h,g6⟩:=h7.1 h
  obtain ⟨h,g5⟩:=h6.1 h
  obtain ⟨h,g4⟩:=h5.1 h
  obtain ⟨h,g3⟩:=h4.1 h
  obtain ⟨h,g2⟩:=h3.1 h
  obtain ⟨h,g1⟩:=h2.1 h
  obtain ⟨_,g0⟩:=h1.1 h
  exact ⟨g0.2,g1.2,g2.2,g3.2,g4.2,g5.2,g6.2⟩
 have e:∀ i,i<7->(Qaj (rdN l i)).2.1=0:=fun i hi=>by
  rw [Qc2];exact he (i+1) hi
 obtain ⟨f0,f1,f2,f3,f4,f5,f6⟩:=hf
 exact h7.2 ⟨h6.2 ⟨h5.2 ⟨h4.2 ⟨h3.2 ⟨h2.2 ⟨h1.2 ⟨rfl,e 0 (by omega),f0⟩,e 1 (by omega),f1⟩,e 2 (by omega),f2⟩,e 3 (by omega),f3⟩,e 4 (by omega),f4⟩,e 5 (by omega),f5⟩,e 6 (by omega),f6⟩
theorem QnE {n b:Nat}:n/2 ^ b=0↔n<2 ^ b:=by
 have:=Nat.two_pow_pos b
 rw [Nat.div_eq_zero_iff];omega
theorem QmZ {b:Bs} {v:Vec} {e:Nat} {r:Rdr} (hr:r=rdN b 7) (ok:QaZ b) (he:(QaT r).2.2.e=0) (hd:(QaT r).2.2.l=[]) (hf:FitO b) (hv:QcA (QaT r).1 v e):(e=0/\QaI (opD b v)=true->Qef b (opD b v) 0)/\(¬(e=0/\QaI (opD b v)=true)->Qef b Qhg 5):=by
 rw [hr] at he hd hv;exact Qr0 ok he hd hf hv
theorem Qrf {b:Bs} {u:Opn} {r:Rdr} (hr:r=rdN b 7) (h:IsO b u):(∀ k,k<=7->(rdN b k).e=0)/\QaT r=(QaF u.ctx,0,⟨0,[]⟩)/\FitO b:=by
 obtain ⟨a,c,d,_⟩:=Qqz h
 exact ⟨a,by rw [hr];exact c,d⟩
theorem QvP {b:Bs} {r:Rdr} (hr:r=rdN b 7) (ok:QaZ b) (h:b.length<=800000):QaZ r.l/\r.l.length<=800000:=by
 rw [hr];exact ⟨QqK ok 7,Nat.le_trans (Qng b 7) h⟩
def Qwm (r:Rdr) (b:Bs):Prop:=r=rdN b 7
def QfC (r:Rdr) (b:Bs) (k:Nat):Prop:=r=rdN b k
theorem QfC.zero (b:Bs):QfC ⟨0,b⟩ b 0:=rfl
theorem QfC.next {r:Rdr} {b:Bs} {k:Nat} (h:QfC r b k):QfC (Qaj r).2.2 b (k+1):=by
 unfold QfC at *
 rw [h];exact Qp3 b k
theorem QfC.nexte {r:Rdr} {b:Bs} {k:Nat} (h:QfC r b k):(Qaj r).2.2.e=(rdN b (k+1)).e:=by
 have:=h.next
 unfold QfC at this
 rw [this]
def QK (Q:List Int) (b:Bs) (k:Nat):Prop:=Q=(List.range k).map fun i=>((nO b i:Nat):Int)
theorem QK.zero (b:Bs):QK [] b 0:=rfl
theorem QK.next {Q:List Int} {r:Rdr} {b:Bs} {k:Nat} (h:QK Q b k) (hr:QfC r b k):QK (Q++[(((Qaj r).1:Nat):Int)]) b (k+1):=by
 unfold QK QfC at *
 rw [List.range_succ,List.map_append,← h,hr]
 rfl
theorem QK.len {Q:List Int} {b:Bs} {k:Nat} (h:QK Q b k):Q.length=k:=by
 unfold QK at h
 rw [h];simp
def QvT (n:Nat) (b:Bs) (i:Nat):Prop:=n=nO b i
theorem QvT.n {n:Nat} {b:Bs} {i:Nat} (h:QvT n b i):n=nO b i:=h
theorem QK.at_ {Q:List Int} {b:Bs} {k:Nat} (h:QK Q b k) (i:Nat) (hi:i<k):∃ n:Nat,QvT n b i/\gd Q i=(n:Int):=by
 refine ⟨nO b i,rfl,?_⟩
 unfold QK at h
 rw [h]
 simp [gd,List.getD_eq_getElem?_getD,hi]
theorem Rdv.num_len {w:World} {x:Rdv} (h:x.ok w):x.num.l.length<=x.l.length:=by
 have h1:=Rdv.num_r h
 have h2:=Qh4 (r:=x.r)
 rw [← h1] at h2
 exact h2
end Go.Vx
namespace Go.Proofs
open Go Go.Vx Go.RowKit
open Tryz
namespace Tt
theorem QoG:T1 prog 164:=⟨sizeOf164,isAgg164⟩
theorem Qt0:Bt prog 215 [(0,1),(1,1),(2,1),(3,1),(4,1),(5,1),(6,1)] (q7 [0,0,0,0,0,0,0]):=Qid type215 rfl rfl underlying215 type65 rfl (k:=1) rfl
theorem Qqi:En prog 48:=call48
theorem Qtr:En prog 49:=call49
theorem Qim:FA prog 287 0 0:=fun b o w=>by simp [Instr.fieldAt,Instr.sureAddr,fieldPlace,QaR]
theorem QkI:FA prog 287 1 1:=fun b o w=>by simp [Instr.fieldAt,Instr.sureAddr,fieldPlace,QaR]
theorem Qug:Ud prog 215 (.array 7 65):=runUnderlying215
theorem QfP:Ud prog 23 (.int .u16):=runUnderlying23
end Tt
end Go.Proofs
namespace Go.Proofs
open Go Go.Vx Go.RowKit
open Tryz
namespace Tt
theorem Qt4:Bt prog 287 [(0,1),(1,1)] ([.pointer none,.bool false]):=Qcf type287 rfl rfl underlying287 (by kernel_rfl)
theorem Qgn:En prog 167:=call167
theorem Qpf:En prog 80:=call80
theorem Qut:En prog 81:=call81
end Tt
end Go.Proofs
namespace Go.Proofs
open Go Go.Vx Go.RowKit
open Tryz
namespace Tt
theorem Qvf:Bt prog 52 [(0,1),(1,1)] (dc (⟨0,0⟩:Dot)):=Qcf type52 rfl rfl underlying52 (by kernel_rfl)
theorem Qnb:El prog 294 65 1 8:=⟨underlying294,_,_,type65,rfl,rfl,rfl,rfl,by decide⟩
theorem QqJ:En prog 232:=call232
theorem Qp6:En prog 86:=call86
theorem QtT:En prog 87:=call87
theorem Qe5:Ud prog 294 (.slice 65):=runUnderlying294
end Tt
end Go.Proofs
