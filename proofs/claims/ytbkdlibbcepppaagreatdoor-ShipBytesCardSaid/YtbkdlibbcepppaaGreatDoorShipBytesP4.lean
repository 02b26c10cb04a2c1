/- A part of a proof: what functions of the program compute, and plain facts on that. -/
import Derived.Test.YtbkdlibbcepppaaGreatDoorShipBytesP3
import Derived.Laws.MakeOwn
import Derived.Laws.Externs
set_option linter.unusedVariables false
set_option linter.unusedSectionVars false
set_option linter.unusedSimpArgs false
set_option maxHeartbeats 4000000
set_option maxRecDepth 100000
namespace Go.Ce
open Go.RowKit Go.Vx
variable [Tok]
section
variable {C:Cfg} {P:Program} (HC:CfgOk C P) {n:Nat} {env:Tr AV} {e:Operand->Value} {σ:Sig} {w:World} {m:Mem} {B:Nat} {w0:World} {M:Nat->Prop} [Inv w0 M] {fr:Nat->Res} {op:Op}
include HC
theorem Qwi {t:Nat} {x y:Operand} {r:AV × Mem} (H:HE n env e σ [x,y]) (hg:Good B w0 M σ fr m.h.get w) (h:o_ms C n env m t x y=some r):MLe m r.2/\(Fresh m.c (m.c+1) σ fr m.h.get->QcH P (.makeSlice t x y) e B w0 M σ fr m w r):=by
 unfold o_ms at h
 cases hd:und C t with
 | none=>rw [hd] at h;cases h
 | some d =>
 rw [hd] at h
 cases d<;>dsimp only at h<;>first|(cases h;done)|skip
 rename_i el
 cases hx:aev n env x with
 | none=>rw [hx] at h;cases h
 | some v =>
 rw [hx] at h
 have r1:=H x (by simp) v hx
 generalize e1:e x=V1 at r1
 cases v<;>dsimp only at h<;>first|(cases h;done)|skip
 cases hy:aev n env y with
 | none=>rw [hy] at h;cases h
 | some v =>
 rw [hy] at h
 have r2:=H y (by simp) v hy
 generalize e2:e y=V2 at r2
 cases v<;>dsimp only at h<;>first|(cases h;done)|skip
 rename_i k1 q1 k2 q2
 obtain ⟨l,hl,h⟩:=bind_some h
 obtain ⟨c,hc,h⟩:=bind_some h
 obtain ⟨k,hk,h⟩:=bind_some h
 obtain ⟨z,hz,h⟩:=bind_some h
 obtain ⟨hb,h⟩:=Qam h
 obtain ⟨i,hi,h⟩:=bind_some h
 obtain ⟨hb2,h⟩:=Qam h
 simp only [Bool.and_eq_true] at hb
 obtain ⟨⟨⟨b1,b2⟩,b3⟩,b4⟩:=hb
 have b1:=QQ8 b1
 have b2:=QQ8 b2
 have b3:=QdD b3
 have b5:=QQ8 hb2
 have hl:=Qcn hl
 have hc:=Qcn hc
 simp only [Option.some.injEq] at h
 obtain ⟨Z,hZ,hZr,i2,hi2,hiz⟩:=Qet HC hz
 have hi':=HC.info el i hi
 rw [hi'] at hi2;cases hi2
 obtain ⟨i3,hi3,hs,_⟩:=Qh6 HC hk
 rw [hi'] at hi3;cases hi3
 subst h
 cases r1;cases r2
 have hzl:=(hZr σ).cells.len
 have hzr:=Qgw (hZr σ).cells c
 have hzs:Z.cells.toList.length=i.size:=by omega
 rw [hzs] at hzr
 have hrun:=run_make (P:=P) (w:=w) t el i Z (Qdl HC hd) hi' hiz k1 k2 q1 q2 (by omega) (by omega) (by
  have:(i.bytes:Int)*q2<=1000000*1000000:=by
   rw [hc]
   have:=Nat.mul_le_mul b5 b2
   have h2:((i.bytes*c:Nat):Int)<=((1000000*1000000:Nat):Int):=Int.ofNat_le.2 this
   rw [Int.natCast_mul] at h2
   exact h2
  omega) (by omega)
 refine ⟨MLe.new _ _,fun hf=>Qer hg rfl ⟨_,0,.slice (some ⟨w.heap.size,0,none⟩) l (c+0),⟨_,[],hzr.mono (Sig.le_up (hf _ (Nat.le_refl _) (Nat.lt_succ_self _)).1),rfl,rfl⟩,.sl Sig.up_self,fun ty=>?_⟩⟩
 simp only [X,execOp,e1,e2,hrun,Sem.run_bind,Sem.run_pure,Result.andThen_ok]
 subst hl;subst hc
 simp only [Int.toNat_natCast,Nat.add_zero,madeCells,List.append_nil,Array.toArray_toList]
omit HC in
theorem QnU {l:List AV} (h:l.all AV.one=true):∀ N,(repA l N).all AV.one=true
 | 0=>rfl
 | N+1=>by
  show (l++repA l N).all AV.one=true
  rw [List.all_append,h,QnU h N];rfl
omit HC in
theorem Qq2 {y:AV} {k:Nat} {l:List AV} {V:Value} (hg:Good B w0 M σ fr m.h.get w) (hr:Rel σ y V) (h:rowA m k y=some l) :
  ∃ base len c vs,V = .slice base len c/\RelL σ l vs/\vs.length=len*k/\(∀ a,base=some a->∀ j u,vs[j]?=some u->w.cell? (a.add j)=some u)/\(base=none->len=0)/\(lenA m y=some len):=by
 unfold rowA at h
 cases y<;>dsimp only at h<;>first|(cases h;done)|skip
 ·cases h;cases hr
  exact ⟨none,0,0,[],rfl,.nil,by simp,fun a h=>(by cases h),fun _=>rfl,rfl⟩
 ·cases h;cases hr with|se a c=>?_
  exact ⟨some a,0,c,[],rfl,.nil,by simp,fun a h j u hj=>(by simp at hj),fun h=>(by cases h),rfl⟩
 ·rename_i nm off len cap ex
  cases hr with|@sl _ _ _ _ b ee _ hσ=>?_
  cases hb:m.h.get nm with
  | none=>rw [hb] at h;cases h
  | some blk =>
  rw [hb] at h
  cases blk<;>dsimp only at h<;>first|(cases h;done)|skip
  rename_i cs T k' ex'
  obtain ⟨b',e',vs,rest,h1,h2,h3,h4⟩:=hg.row hb
  rw [hσ] at h1;cases h1
  obtain ⟨hle,h⟩:=Qam h
  cases h
  have hle:=QQ8 hle
  refine ⟨some ⟨b,off,none⟩,len,_,(vs.drop off).take (len*k),rfl,(h3.drop off).take _,by have:=h3.len;simp;omega,fun a ha j u hj=>?_,fun h=>(by cases h),rfl⟩
  cases ha
  rw [QaR]
  exact QeX h2 off (len*k) j u hj
omit HC in
theorem Qea {base:Option Addr} {len c k q:Nat} {vs:List Value} (hl:vs.length=len*k) (hc:∀ a,base=some a->∀ j u,vs[j]?=some u->w.cell? (a.add j)=some u) (h0:base=none->len=0) (hq:q<=len) :
  (Builtin.firstCells k q (.slice base len c)).run P w = .ok (vs.take (q*k)).toArray w:=by
 have hqk:q*k<=len*k:=Nat.mul_le_mul_right _ hq
 cases base with
 | none =>
  have:=h0 rfl
  subst this
  have:vs=[]:=List.eq_nil_of_length_eq_zero (by omega)
  subst this
  simp [Builtin.firstCells,Sem.run_pure]
 | some a =>
  refine run_firstCells_some (P:=P) w k q a len c (vs.take (q*k)) (by simp;omega) fun j v hj=>hc a rfl j v ?_
  rw [List.getElem?_take] at hj
  split at hj
  ·exact hj
  ·cases hj
theorem Qr5 {args:Array Operand} {ts:Array TypeId} {x:AV} {V1:Value} {d:TypeDesc} {r:AV × Mem} (hv:args.toList.map e=[V1]) (r1:Rel σ x V1) (hd:ts.toList.head?.bind (und C)=some d) (hg:Good B w0 M σ fr m.h.get w) (h:o_clear C m d x=some r):MLe m r.2/\QcH P (.call { callee:=.builtin .clear,args,argTypes:=ts }) e B w0 M σ fr m w r:=by
 obtain ⟨t,ht,hd⟩:=QdP hd
 have fin:∀ w',(∀ ty,(Builtin.clear_ ts ty #[V1]).run P w = .ok (.tuple #[]) w')->∀ ty,X P (.call { callee:=.builtin .clear,args,argTypes:=ts }) ty e w = .ok (.value (.tuple #[])) w':=fun w' ho ty=>by
  rw [QcK hv ty,BigFrame.builtin_clear]
  simp only [Sem.run_bind,ho ty,Result.andThen_ok,Sem.run_pure]
 unfold o_clear at h
 cases d<;>dsimp only at h<;>first|(cases h;done)|skip
 rename_i el _
 have hu:=Qbm HC hd w
 cases x<;>dsimp only at h<;>first|(cases h;done)|skip
 ·cases h;cases r1
  refine ⟨MLe.refl _,Qcs hg ⟨_,.tu .nil,fin w fun ty=>?_⟩⟩
  simp only [Builtin.clear_,ht,List.getElem?_toArray,List.getElem?_cons_zero,Sem.run_bind,hu,Result.andThen_ok,Sem.run_pure]
 ·cases h;cases r1
  refine ⟨MLe.refl _,Qcs hg ⟨_,.tu .nil,fin w fun ty=>?_⟩⟩
  simp only [Builtin.clear_,ht,List.getElem?_toArray,List.getElem?_cons_zero,Sem.run_bind,hu,Result.andThen_ok,Sem.run_pure]
 ·rename_i nm off len cap ex
  cases r1 with|@sl _ _ _ _ b ee _ hσ=>?_
  obtain ⟨k,hk,h⟩:=bind_some h
  obtain ⟨z,hz,h⟩:=bind_some h
  cases hb:m.h.get nm with
  | none=>rw [hb] at h;cases h
  | some blk =>
  rw [hb] at h
  cases blk<;>dsimp only at h<;>first|(cases h;done)|skip
  rename_i cs T k' ex'
  obtain ⟨b',e',vs,rest,h1,h2,h3,h4⟩:=hg.row hb
  rw [hσ] at h1;cases h1
  obtain ⟨hc,h⟩:=Qam h
  cases h
  simp only [Bool.and_eq_true] at hc
  obtain ⟨⟨⟨c1,c2⟩,c3⟩,c4⟩:=hc
  have c1:=QQ8 c1
  have c2:=QhP c2
  have c3:=QdD c3
  obtain ⟨Z,hZ,hZr,i,hi,hiz⟩:=Qet HC hz
  have hzl:=(hZr σ).cells.len
  have hzr:=Qgw (hZr σ).cells len
  have hzs:Z.cells.toList.length=k:=by omega
  rw [hzs] at hzr
  have e1:((Array.range (len*k)).map (fun i=>Z.cells.toList.toArray[i%Z.cells.toList.toArray.size]!)).toList=(Builtin.zeroCells Z.cells len).toList:=by
   have:Z.cells.size=k:=by simpa using hzs
   simp [Builtin.zeroCells,this]
  rw [e1] at hzr
  have hzlen:(Builtin.zeroCells Z.cells len).toList.length=len*k:=by
   have:Z.cells.size=k:=by simpa using hzs
   simp [Builtin.zeroCells,this]
  refine ⟨MLe.set _ c2,Qhf hg hb hσ h2 h4 (vs':=vs.take off++(Builtin.zeroCells Z.cells len).toList++vs.drop (off+len*k)) (((h3.take off).app hzr).app (h3.drop (off+len*k))) (.tu .nil) fun ty=>.inl (fin _ (fun ty=>?_) ty)⟩
  have hone:∀ u∈(Builtin.zeroCells Z.cells len).toList,u.oneCell'=true:=by
   exact hzr.ones (QnU c4 len)
  have hst:=Qe7 (P:=P) h2 (off:=off) (news:=(Builtin.zeroCells Z.cells len).toList) (by have:=h3.len;omega) hone
  rw [hzlen] at hst
  cases len with
  | zero =>
   have hz0:(Builtin.zeroCells Z.cells 0).toList=[]:=by simp [Builtin.zeroCells]
   have:w.setRow b ((vs.take off++(Builtin.zeroCells Z.cells 0).toList++vs.drop (off+0*k))++rest).toArray=w:=by
    rw [hz0,Nat.zero_mul,Nat.add_zero,List.append_nil,List.take_append_drop]
    exact setRow_self w b _ T (0,0) h2
   rw [this]
   simp only [Builtin.clear_,ht,List.getElem?_toArray,List.getElem?_cons_zero,Sem.run_bind,hu,Result.andThen_ok,Sem.run_pure]
  | succ N =>
   simp only [Builtin.clear_,ht,List.getElem?_toArray,List.getElem?_cons_zero,Sem.run_bind,hu,Result.andThen_ok,hZ w,hst,Sem.run_pure]
theorem QrQ {args:Array Operand} {ts:Array TypeId} {x y:AV} {V1 V2:Value} {d:TypeDesc} {r:AV × Mem} (hv:args.toList.map e=[V1,V2]) (r1:Rel σ x V1) (r2:Rel σ y V2) (hd:ts.toList.head?.bind (und C)=some d) (hg:Good B w0 M σ fr m.h.get w) (h:o_copyN C m d x y=some r):MLe m r.2/\QcH P (.call { callee:=.builtin .copy,args,argTypes:=ts }) e B w0 M σ fr m w r:=by
 obtain ⟨t,ht,hd⟩:=QdP hd
 have fin:∀ V w',(∀ ty,(Builtin.copy_ ts ty #[V1,V2]).run P w = .ok V w')->∀ ty,X P (.call { callee:=.builtin .copy,args,argTypes:=ts }) ty e w = .ok (.value V) w':=fun V w' ho ty=>by
  rw [QcK hv ty,BigFrame.builtin_copy]
  simp only [Sem.run_bind,ho ty,Result.andThen_ok,Sem.run_pure]
 unfold o_copyN at h
 cases d<;>dsimp only at h<;>first|(cases h;done)|skip
 rename_i el _
 have hu:=Qbm HC hd w
 obtain ⟨k,hk,h⟩:=bind_some h
 obtain ⟨nw,hnw,h⟩:=bind_some h
 obtain ⟨ly,hly,h⟩:=bind_some h
 obtain ⟨base,len,c,vs2,rfl,hrn,hnl,hnc,hn0,hlen⟩:=Qq2 hg r2 hnw
 have hly':len=ly:=Option.some.inj (hlen.symm.trans hly)
 subst hly'
 have hsz:=Qfx HC hk w
 have hlo:(Builtin.lenOf (.slice base len c)).run P w = .ok len w:=by simp only [Builtin.lenOf,Sem.run_pure]
 clear hly
 cases x<;>dsimp only at h<;>first|(cases h;done)|skip
 ·cases h;cases r1
  refine ⟨MLe.refl _,Qcs hg ⟨_,.i _ _,fin (goInt 0) w fun ty=>?_⟩⟩
  have hf:=Qea (P:=P) (w:=w) (c:=c) (q:=0) hnl hnc hn0 (Nat.zero_le _)
  simp only [Builtin.copy_,ht,List.getElem?_toArray,List.getElem?_cons_zero,List.getElem?_cons_succ,Sem.run_bind,hu,Result.andThen_ok,hlo,hsz,show Nat.min len 0=0 from Nat.min_zero _,hf,Sem.run_pure]
  rfl
 ·cases h;cases r1 with|se a0 c0=>?_
  refine ⟨MLe.refl _,Qcs hg ⟨_,.i _ _,fin (goInt 0) w fun ty=>?_⟩⟩
  have hf:=Qea (P:=P) (w:=w) (c:=c) (q:=0) hnl hnc hn0 (Nat.zero_le _)
  simp only [Builtin.copy_,ht,List.getElem?_toArray,List.getElem?_cons_zero,List.getElem?_cons_succ,Sem.run_bind,hu,Result.andThen_ok,hlo,hsz,show Nat.min len 0=0 from Nat.min_zero _,hf,Sem.run_pure]
  simp [storeCells,goInt]
 ·rename_i nm off dl cap ex _ _ _
  cases r1 with|@sl _ _ _ _ b ee _ hσ=>?_
  cases hb:m.h.get nm with
  | none=>rw [hb] at h;cases h
  | some blk =>
  rw [hb] at h
  cases blk<;>dsimp only at h<;>first|(cases h;done)|skip
  rename_i cs T k' ex'
  obtain ⟨b',e',vs,rest,h1,h2,h3,h4⟩:=hg.row hb
  rw [hσ] at h1;cases h1
  obtain ⟨hc,h⟩:=Qam h
  cases h
  simp only [Bool.and_eq_true] at hc
  obtain ⟨⟨⟨c1,c2⟩,c3⟩,c4⟩:=hc
  have c2:=QQ8 c2
  have c3:=QhP c3
  have hq:Nat.min len dl<=len:=Nat.min_le_left _ _
  have hqk:Nat.min len dl*k<=len*k:=Nat.mul_le_mul_right _ hq
  have hf:=Qea (P:=P) (w:=w) (c:=c) (q:=Nat.min len dl) hnl hnc hn0 hq
  have hl2:(vs2.take (Nat.min len dl*k)).length=Nat.min len dl*k:=by simp;omega
  refine ⟨MLe.set _ c3,Qhf hg hb hσ h2 h4 (vs':=vs.take off++vs2.take (Nat.min len dl*k)++vs.drop (off+Nat.min len dl*k)) (((h3.take off).app (hrn.take _)).app (h3.drop _)) (.i _ _) fun ty=>.inl (fin (goInt (Nat.min len dl)) _ (fun ty=>?_) ty)⟩
  have hst:=Qe7 (P:=P) h2 (off:=off) (news:=vs2.take (Nat.min len dl*k)) (by have:=h3.len;omega) (fun u hu=>hrn.ones c1 u (List.mem_of_mem_take hu))
  rw [hl2] at hst
  simp only [Builtin.copy_,ht,List.getElem?_toArray,List.getElem?_cons_zero,List.getElem?_cons_succ,Sem.run_bind,hu,Result.andThen_ok,hlo,hsz,hf,hst,Sem.run_pure]
omit HC in
theorem QgL {base:Option Addr} {len c q:Nat} {vs:List Value} (hl:vs.length=q) (hc:∀ a,base=some a->∀ j u,vs[j]?=some u->w.cell? (a.add j)=some u) (h0:base=none->len=0) (hq:q<=len) :
  (Builtin.firstCells 1 q (.slice base len c)).run P w = .ok vs.toArray w:=by
 cases base with
 | none =>
  have:=h0 rfl
  have:vs=[]:=List.eq_nil_of_length_eq_zero (by omega)
  subst this
  have:q=0:=by omega
  subst this
  simp [Builtin.firstCells,Sem.run_pure]
 | some a=>exact run_firstCells_some (P:=P) w 1 q a len c vs (by omega) fun j v hj=>hc a rfl j v hj
theorem QsJ {args:Array Operand} {ts:Array TypeId} {x:AV} {q:Nat} {V1 V2:Value} {d:TypeDesc} {r:AV × Mem} (hv:args.toList.map e=[V1,V2]) (r1:Rel σ x V1) (r2:Rel σ (.tok q) V2) (hd:ts.toList.head?.bind (und C)=some d) (hg:Good B w0 M σ fr m.h.get w) (h:o_copyT C m d x q=some r):MLe m r.2/\QcH P (.call { callee:=.builtin .copy,args,argTypes:=ts }) e B w0 M σ fr m w r:=by
 obtain ⟨t,ht,hd⟩:=QdP hd
 have fin:∀ V w',(∀ ty,(Builtin.copy_ ts ty #[V1,V2]).run P w = .ok V w')->∀ ty,X P (.call { callee:=.builtin .copy,args,argTypes:=ts }) ty e w = .ok (.value V) w':=fun V w' ho ty=>by
  rw [QcK hv ty,BigFrame.builtin_copy]
  simp only [Sem.run_bind,ho ty,Result.andThen_ok,Sem.run_pure]
 unfold o_copyT at h
 cases d<;>dsimp only at h<;>first|(cases h;done)|skip
 rename_i el _
 have hu:=Qbm HC hd w
 obtain ⟨k,hk,h⟩:=bind_some h
 obtain ⟨hk1,h⟩:=Qam h
 have hk1:=Nat.eq_of_beq_eq_true hk1
 subst hk1
 have hsz:=Qfx HC hk w
 cases r2
 cases x<;>dsimp only at h<;>first|(cases h;done)|skip
 ·obtain ⟨l,hl,h⟩:=bind_some h
  cases h;cases r1
  obtain ⟨p,dl,c,e2,_,h2,h3,h4,h5⟩:=HC.tk.cp _ _ _ hl
  rw [e2] at fin
  have hlo:(Builtin.lenOf (.slice p dl c)).run P w = .ok dl w:=by simp only [Builtin.lenOf,Sem.run_pure]
  refine ⟨MLe.refl _,Qcs hg ⟨_,.i _ _,fin (goInt 0) w fun ty=>?_⟩⟩
  have hf:=QgL (P:=P) (w:=w) (base:=p) (len:=dl) (c:=c) (q:=0) (vs:=[]) rfl (by simp) h3 (Nat.zero_le _)
  simp only [Builtin.copy_,ht,List.getElem?_toArray,List.getElem?_cons_zero,List.getElem?_cons_succ,Sem.run_bind,hu,Result.andThen_ok,hlo,hsz,show Nat.min dl 0=0 from Nat.min_zero _,hf,Sem.run_pure]
  rfl
 ·obtain ⟨l,hl,h⟩:=bind_some h
  cases h;cases r1 with|se a0 c0=>?_
  obtain ⟨p,dl,c,e2,_,h2,h3,h4,h5⟩:=HC.tk.cp _ _ _ hl
  rw [e2] at fin
  have hlo:(Builtin.lenOf (.slice p dl c)).run P w = .ok dl w:=by simp only [Builtin.lenOf,Sem.run_pure]
  refine ⟨MLe.refl _,Qcs hg ⟨_,.i _ _,fin (goInt 0) w fun ty=>?_⟩⟩
  have hf:=QgL (P:=P) (w:=w) (base:=p) (len:=dl) (c:=c) (q:=0) (vs:=[]) rfl (by simp) h3 (Nat.zero_le _)
  simp only [Builtin.copy_,ht,List.getElem?_toArray,List.getElem?_cons_zero,List.getElem?_cons_succ,Sem.run_bind,hu,Result.andThen_ok,hlo,hsz,show Nat.min dl 0=0 from Nat.min_zero _,hf,Sem.run_pure]
  simp [storeCells,goInt]
 ·rename_i nm off dl cap ex _ _
  cases r1 with|@sl _ _ _ _ b ee _ hσ=>?_
  obtain ⟨l,hl,h⟩:=bind_some h
  cases hb:m.h.get nm with
  | none=>rw [hb] at h;cases h
  | some blk =>
  rw [hb] at h
  cases blk<;>dsimp only at h<;>first|(cases h;done)|skip
  rename_i cs T k' ex'
  obtain ⟨b',e',vs,rest,h1,h2,h3,h4⟩:=hg.row hb
  rw [hσ] at h1;cases h1
  obtain ⟨hc,h⟩:=Qam h
  cases h
  simp only [Bool.and_eq_true] at hc
  obtain ⟨⟨c2,c3⟩,_⟩:=hc
  have c2:=QQ8 c2
  have c3:=QhP c3
  obtain ⟨p,sl,c,e2,hle,hll,hz,hone,hcell⟩:=HC.tk.cp _ _ _ hl
  rw [e2] at fin
  have hlo:(Builtin.lenOf (.slice p sl c)).run P w = .ok sl w:=by simp only [Builtin.lenOf,Sem.run_pure]
  have hmin:Nat.min sl dl=dl:=Nat.min_eq_right hle
  have hrel:RelL σ (l.map AV.tok) (l.map Tok.v):=by
   have:∀ l:List Nat,(∀ x∈l,(Tok.v x).oneCell'=true)->RelL σ (l.map AV.tok) (l.map Tok.v):=by
    intro l
    induction l with
    | nil=>intro _;exact .nil
    | cons y l ih =>
     intro h
     exact .cons (.tok y (h y List.mem_cons_self)) (ih fun x hx=>h x (List.mem_cons_of_mem _ hx))
   exact this l hone
  have hf:=QgL (P:=P) (w:=w) (base:=p) (len:=sl) (c:=c) (q:=dl) (vs:=l.map Tok.v) (by simpa using hll) (fun a ha j u hj=>by
   rw [List.getElem?_map] at hj
   cases hx:l[j]? with
   | none=>rw [hx] at hj;cases hj
   | some x =>
    rw [hx] at hj
    cases hj
    exact hcell w0 M Inv.ok w _ hg.own a ha j x hx) hz hle
  refine ⟨MLe.set _ c3,Qhf hg hb hσ h2 h4 (vs':=vs.take off++l.map Tok.v++vs.drop (off+dl)) (((h3.take off).app hrel).app (h3.drop _)) (.i _ _) fun ty=>.inl (fin (goInt dl) _ (fun ty=>?_) ty)⟩
  have hst:=Qe7 (P:=P) h2 (off:=off) (news:=l.map Tok.v) (by have:=h3.len;rw [QQ6];omega) (fun u hu=>by
   obtain ⟨x,hx,rfl⟩:=List.mem_map.1 hu
   exact hone x hx)
  rw [QQ6,hll] at hst
  simp only [Builtin.copy_,ht,List.getElem?_toArray,List.getElem?_cons_zero,List.getElem?_cons_succ,Sem.run_bind,hu,Result.andThen_ok,hlo,hsz,hmin,hf,hst,Sem.run_pure]
theorem QtO {args:Array Operand} {ts:Array TypeId} {x y:AV} {V1 V2:Value} {d:TypeDesc} {r:AV × Mem} (hv:args.toList.map e=[V1,V2]) (r1:Rel σ x V1) (r2:Rel σ y V2) (hd:ts.toList.head?.bind (und C)=some d) (hg:Good B w0 M σ fr m.h.get w) (h:o_copy C m d x y=some r):MLe m r.2/\QcH P (.call { callee:=.builtin .copy,args,argTypes:=ts }) e B w0 M σ fr m w r:=by
 unfold o_copy at h
 cases y with
 | tok q=>exact QsJ HC hv r1 r2 hd hg h
 | _=>exact QrQ HC hv r1 r2 hd hg h
end
end Go.Ce
namespace Go.Ce
open Go.RowKit Go.Vx
variable [Tok]
def Qrt (P:Program) (σ:Sig) (w:World) (t0 t1 k:Nat) (z:Value) (nw:List AV × Nat × Bool) (V2:Value):Prop :=
 ∃ news,RelL σ nw.1 news/\news.length=nw.2.1*k /\
  ((nw.2.2=true/\(∃ kq,V2 = .int kq (nw.2.1:Int))/\(∃ kn,P.underlying t1=some (.int kn))/\news=(Builtin.zeroCells z.cells nw.2.1).toList/\nw.2.1<=1000000) ∨
   (nw.2.2=false/\t0=t1/\∃ base c,V2 = .slice base nw.2.1 c/\(∀ a,base=some a->∀ j u,news[j]?=some u->w.cell? (a.add j)=some u)/\(base=none->nw.2.1=0)))
section
variable {C:Cfg} {P:Program} (HC:CfgOk C P) {n:Nat} {env:Tr AV} {e:Operand->Value} {σ:Sig} {w:World} {m:Mem} {B:Nat} {w0:World} {M:Nat->Prop} [Inv w0 M] {fr:Nat->Res} {op:Op}
theorem QuJ (HC:CfgOk C P) {t0 t1:Nat} {z y:AV} {Z V2:Value} {i:TypeInfo} {nw:List AV × Nat × Bool} (hg:Good B w0 M σ fr m.h.get w) (hZr:Rel σ z Z) (hzk:z.cells.length=i.size) (hr:Rel σ y V2) (h:newA C m t0 t1 i.size z y=some nw):Qrt P σ w t0 t1 i.size Z nw V2:=by
 unfold newA at h
 cases y<;>dsimp only at h<;>first|(cases h;done)|skip
 ·rename_i kq q
  cases hd:und C t1 with
  | none=>rw [hd] at h;cases h
  | some d =>
  rw [hd] at h
  cases d<;>dsimp only at h<;>first|(cases h;done)|skip
  obtain ⟨j,hj,h⟩:=bind_some h
  obtain ⟨hb,h9⟩:=Qam h
  clear h
  have hj:=Qcn hj
  subst hj
  cases h9
  cases hr
  have hzr:=Qgw hZr.cells j
  have hzl:=hZr.cells.len
  have hzs:Z.cells.toList.length=i.size:=by omega
  rw [hzs] at hzr
  have e1:((Array.range (j*i.size)).map (fun i=>Z.cells.toList.toArray[i%Z.cells.toList.toArray.size]!)).toList=(Builtin.zeroCells Z.cells j).toList:=by
   have:Z.cells.size=i.size:=by simpa using hzs
   simp [Builtin.zeroCells,this]
  rw [e1] at hzr
  exact ⟨_,hzr,by have:=hzr.len;rw [this];show (repA z.cells j).length=j*i.size;rw [Qn6,hzk],.inl ⟨rfl,⟨_,rfl⟩,⟨_,Qdl HC hd⟩,rfl,QQ8 hb⟩⟩
 ·obtain ⟨hb,h⟩:=Qam h
  cases h;cases hr
  exact ⟨[],.nil,by simp,.inr ⟨rfl,QdD hb,none,0,rfl,fun a h=>(by cases h),fun _=>rfl⟩⟩
 ·obtain ⟨hb,h⟩:=Qam h
  cases h;cases hr with|se a c=>?_
  exact ⟨[],.nil,by simp,.inr ⟨rfl,QdD hb,some a,c,rfl,fun a h j u hj=>(by simp at hj),fun h=>(by cases h)⟩⟩
 ·obtain ⟨hb,h⟩:=Qam h
  obtain ⟨l,hl,h⟩:=map_some h
  subst h
  obtain ⟨base,len,c,vs,rfl,h1,h2,h3,h4,h5⟩:=Qq2 hg hr hl
  simp only [lenA,Option.some.injEq] at h5
  subst h5
  exact ⟨vs,h1,h2,.inr ⟨rfl,QdD hb,base,c,rfl,h3,h4⟩⟩
theorem QiC {t0 t1 el k:Nat} {base:Option Addr} {len cap:Nat} {Z V2:Value} {nw:List AV × Nat × Bool} (hu:P.underlying t0=some (.slice el)) (hk:Sz P el k) (hn:Qrt P σ w t0 t1 k Z nw V2) (h0:nw.2.1=0) (hle:len<=cap) (ie:TypeInfo) (hie:P.info? el=some ie) (ty:TypeId) :
  (Builtin.append_ #[t0,t1] ty #[.slice base len cap,V2]).run P w = .ok (.slice base len cap) w:=by
 obtain ⟨news,_,_,h⟩:=hn
 have hsz:(sizeOf el).run P w = .ok k w:=hk w
 rcases h with ⟨_,⟨kq,rfl⟩,⟨kn,hkn⟩,_,_⟩|⟨_,rfl,b2,c2,rfl,_,_⟩
 ·rw [h0]
  have hw:IntKind.i64.wrap 0=0:=by rw [IntKind.wrap_i64];omega
  cases base<;>simp [Builtin.append_,run_underlying hu,run_underlying hkn,hsz,asInt,asIntOf,hw,typeInfo,hie,hle,storeCells,Sem.run]
 ·rw [h0]
  have hf:(Builtin.firstCells k 0 (.slice b2 0 c2)).run P w = .ok #[] w:=by cases b2<;>simp [Builtin.firstCells,loadCells,loadCellsFrom]
  cases base<;>simp [Builtin.append_,run_underlying hu,hsz,Builtin.lenOf,hle,hf,storeCells,Sem.run]
theorem Qix {t0 t1 el:Nat} {base:Option Addr} {len cap:Nat} {Z V2:Value} {nw:List AV × Nat × Bool} {olds:List Value} {ie:TypeInfo} (hu:P.underlying t0=some (.slice el)) (hie:P.info? el=some ie) (hz:ie.zero=some Z) (hn:Qrt P σ w t0 t1 ie.size Z nw V2) (h0:0<nw.2.1) (hs:0<ie.size)
  (hol:olds.length=len*ie.size) (hoc:∀ a,base=some a->∀ j u,olds[j]?=some u->w.cell? (a.add j)=some u) (ho0:base=none->len=0) (hnil:base=none->cap=0) (hcap:cap<len+nw.2.1) (hb1:len+nw.2.1<=1000000000) (hb2:(len+nw.2.1)*ie.bytes<=100000000000) :
  ∃ news,RelL σ nw.1 news/\news.length=nw.2.1*ie.size/\∀ ty,(Builtin.append_ #[t0,t1] ty #[.slice base len cap,V2]).run P w = .ok (.slice (some ⟨w.heap.size,0,none⟩) (len+nw.2.1) (grownCap w (len+nw.2.1) cap el))
   (w.drew.alloc (.cells (olds.toArray++news.toArray++Builtin.zeroCells Z.cells (grownCap w (len+nw.2.1) cap el-(len+nw.2.1))) el)):=by
 obtain ⟨news,hr,hl,h⟩:=hn
 refine ⟨news,hr,hl,fun ty=>?_⟩
 have hfit:Builtin.nextslicecap (len+nw.2.1) cap*ie.bytes<=281474976710656:=growslice_fits hcap (by omega)
 have hold:(Builtin.firstCells ie.size len (.slice base len cap)).run P w.drew = .ok olds.toArray w.drew:=by
  have:=Qea (P:=P) (w:=w.drew) (base:=base) (len:=len) (c:=cap) (k:=ie.size) (q:=len) hol (fun a ha j u hj=>by have:=hoc a ha j u hj;simpa using this) ho0 (Nat.le_refl _)
  rw [← hol,List.take_length] at this
  exact this
 rcases h with ⟨_,⟨kq,rfl⟩,⟨kn,hkn⟩,rfl,hj⟩|⟨_,rfl,b2,c2,rfl,hnc,hn0⟩
 ·have h48:nw.2.1*ie.bytes<=281474976710656:=by
   have:nw.2.1*ie.bytes<=(len+nw.2.1)*ie.bytes:=Nat.mul_le_mul_right _ (by omega)
   omega
  have:=Lib.run_append_grow_zeros (P:=P) w t0 t1 ty el ie Z kq kn hu hkn hie hz base len cap olds hold nw.2.1 h0 hs hcap (by omega) h48 hfit
  rw [this]
 ·cases b2 with
  | none=>have:=hn0 rfl;omega
  | some a2 =>
   cases base with
   | none =>
    have:=ho0 rfl
    subst this
    have:=hnil rfl
    subst this
    have hon:olds=[]:=List.eq_nil_of_length_eq_zero (by omega)
    subst hon
    have:=run_append_nil (P:=P) w t0 ty el ie Z hu hie hz a2 nw.2.1 c2 news hl (hnc a2 rfl) h0 (by omega) (by simp only [Nat.zero_add] at hb2;omega)
    simp only [Nat.zero_add]
    rw [this]
    simp
   | some b =>
    exact run_append_grow (P:=P) w t0 ty el ie Z hu hie hz b len cap olds hol (hoc b rfl) a2 nw.2.1 c2 news hl (hnc a2 rfl) hcap (by omega) hfit
theorem Qwb (HC:CfgOk C P) {args:Array Operand} {ts:Array TypeId} {x y:AV} {V1 V2:Value} {r:AV × Mem} (hv:args.toList.map e=[V1,V2]) (r1:Rel σ x V1) (r2:Rel σ y V2) (hg:Good B w0 M σ fr m.h.get w) (h:appA C m ts.toList x y=some r):MLe m r.2/\((m.c<r.2.c->Fresh m.c (m.c+1) σ fr m.h.get)->QcH P (.call { callee:=.builtin .append,args,argTypes:=ts }) e B w0 M σ fr m w r):=by
 unfold appA at h
 have hts:∃ t0 t1,ts = #[t0,t1]:=by
  obtain ⟨l⟩:=ts
  match l,h with
  | [t0,t1],_=>exact ⟨t0,t1,rfl⟩
 obtain ⟨t0,t1,rfl⟩:=hts
 dsimp only at h
 cases hd:und C t0 with
 | none=>rw [hd] at h;cases h
 | some d =>
 rw [hd] at h
 cases d<;>dsimp only at h<;>first|(cases h;done)|skip
 rename_i el
 obtain ⟨i,hi,ha⟩:=bind_some h
 clear h
 obtain ⟨z,hz,hb⟩:=bind_some ha
 clear ha
 obtain ⟨nw,hnw,ha⟩:=bind_some hb
 clear hb
 obtain ⟨lx,hlx,hb⟩:=bind_some ha
 clear ha
 obtain ⟨hc,h⟩:=Qam hb
 clear hb
 simp only [Bool.and_eq_true] at hc
 obtain ⟨⟨⟨⟨⟨c1,c2⟩,c3⟩,c4⟩,c5⟩,c6⟩:=hc
 have c2:=QdD c2
 have c3:=QhP c3
 have c4:=QdD c4
 have c5:=QQ8 c5
 have c6:=QQ8 c6
 obtain ⟨Z,hZ,hZr,i2,hi2,hiz⟩:=Qet HC hz
 have hi':=HC.info el i hi
 rw [hi'] at hi2;cases hi2
 have hu:=Qdl HC hd
 have hk:Sz P el i.size:=fun w=>by simp [sizeOf,typeInfo,hi']
 have hn:=QuJ HC hg (hZr σ) c4 r2 hnw
 have fin:∀ V w',(∀ ty,(Builtin.append_ #[t0,t1] ty #[V1,V2]).run P w = .ok V w')->∀ ty,X P (.call { callee:=.builtin .append,args,argTypes:=#[t0,t1] }) ty e w = .ok (.value V) w':=fun V w' ho ty=>by
  rw [QcK hv ty,BigFrame.builtin_append]
  simp only [Sem.run_bind,ho ty,Result.andThen_ok,Sem.run_pure]
 have grown:∀ (olds:List AV) (OL news:List Value) (len cap:Nat) {σ':Sig},cap<len+nw.2.1->len+nw.2.1<=1000000000->OL.length=len*i.size->news.length=nw.2.1*i.size->RelL σ' olds OL->RelL σ' nw.1 news->∃ ee,grownCap w (len+nw.2.1) cap el=len+nw.2.1+ee /\
   Qfl σ' (.row (olds++nw.1) el i.size true) ee (.cells (OL.toArray++news.toArray++Builtin.zeroCells Z.cells (grownCap w (len+nw.2.1) cap el-(len+nw.2.1))) el):=by
  intro olds OL news len cap σ' h1 h2 h3 h4 h5 h6
  have hge:=grownCap_ge w (len+nw.2.1) cap el
  refine ⟨grownCap w (len+nw.2.1) cap el-(len+nw.2.1),by omega,OL++news,(Builtin.zeroCells Z.cells (grownCap w (len+nw.2.1) cap el-(len+nw.2.1))).toList,h5.app h6,?_,?_⟩
  ·have hzl:=(hZr σ).cells.len
   have:Z.cells.size=i.size:=by simp at hzl;omega
   simp [Builtin.zeroCells,this]
  ·congr 1
   apply Array.ext'
   simp
 unfold appX at h
 cases x<;>dsimp only at h<;>first|(cases h;done)|skip
 ·
  cases r1
  simp only [Qvp,Option.some.injEq] at hlx
  subst hlx
  cases h0:Nat.beq nw.2.1 0 with
  | true =>
   rw [h0] at h;cases h
   exact ⟨MLe.refl _,fun _=>Qcs hg ⟨_,.sn,fin _ w (QiC hu hk hn (QdD h0) (Nat.le_refl _) i hi')⟩⟩
  | false =>
   rw [h0] at h;cases h
   have h0:=QuW h0
   obtain ⟨news,q1,q2,q3⟩:=Qix (base:=none) (len:=0) (cap:=0) (olds:=[]) hu hi' hiz hn (by omega) c3 (by simp) (fun a h=>(by cases h)) (fun _=>rfl) (fun _=>rfl) (by omega) c5 c6
   refine ⟨MLe.new _ _,fun hf=>?_⟩
   obtain ⟨ee,g1,g2⟩:=grown [] [] news 0 0 (σ':=σ) (by omega) c5 (by simp) q2 .nil q1
   refine QlJ hg rfl ⟨_,ee,_,g2.mono (Sig.le_up (hf (Nat.lt_succ_self _) _ (Nat.le_refl _) (Nat.lt_succ_self _)).1),?_,fin _ _ q3⟩
   rw [g1,Nat.zero_add]
   exact .sl (ex:=true) Sig.up_self
 ·
  cases r1 with|se a0 c0=>?_
  obtain ⟨h0,h⟩:=Qam h
  cases h
  exact ⟨MLe.refl _,fun _=>Qcs hg ⟨_,.se a0 c0,fin _ w (QiC hu hk hn (QdD h0) (Nat.zero_le _) i hi')⟩⟩
 ·rename_i nm off len cap ex
  simp only [Qvp,Option.some.injEq] at hlx
  subst hlx
  have r1':=r1
  cases r1 with|@sl _ _ _ _ b ee _ hσ=>?_
  obtain ⟨hle,h⟩:=Qam h
  have hle:=QQ8 hle
  cases h0:Nat.beq nw.2.1 0 with
  | true =>
   rw [h0] at h;cases h
   exact ⟨MLe.refl _,fun _=>Qcs hg ⟨_,r1',fin _ w (QiC hu hk hn (QdD h0) (by omega) i hi')⟩⟩
  | false =>
  rw [h0] at h
  have h0:=QuW h0
  simp only [cond_false] at h
  cases hb:m.h.get nm with
  | none=>rw [hb] at h;cases h
  | some blk =>
  rw [hb] at h
  cases blk<;>dsimp only at h<;>first|(cases h;done)|skip
  rename_i cs T k' ex'
  obtain ⟨b',e',vs,rest,h1,h2,h3,h4⟩:=hg.row hb
  rw [hσ] at h1;cases h1
  have hvl:=h3.len
  cases hroom:Nat.ble (len+nw.2.1) cap with
  | true =>
   rw [hroom] at h
   simp only [cond_true] at h
   have hroom:=QQ8 hroom
   obtain ⟨hc,h⟩:=Qam h
   cases h
   simp only [Bool.and_eq_true,Bool.not_eq_true'] at hc
   obtain ⟨⟨⟨⟨d1,d2⟩,d3⟩,d4⟩,d5⟩:=hc
   have d1:=QdD d1
   have d2:=QQ8 d2
   have d3:=QhP d3
   have d4:=QdD d4
   subst d1;subst d4
   obtain ⟨news,q1,q2,q3⟩:=hn
   rcases q3 with ⟨hz1,_⟩|⟨_,rfl,b2,c2',rfl,hnc,hn0⟩
   ·rw [hz1] at d5;cases d5
   ·cases b2 with
    | none=>have:=hn0 rfl;omega
    | some a2 =>
     have hone:=q1.ones c1
     have hle2:len*i.size+news.length<=(vs++rest).toArray.size:=by
      rw [q2,← Nat.add_mul];simp;omega
     have hrun:=fun ty=>run_append_room (P:=P) (w:=w) t0 ty T i hu hi' b len (cap+cond ex ee 0) (vs++rest).toArray h2 a2 nw.2.1 c2' news q2 (hnc a2 rfl) hone (by omega) hle2
     have heq:((vs++rest).toArray.toList.take (len*i.size)++news++(vs++rest).toArray.toList.drop (len*i.size+news.length)).toArray=((vs.take (len*i.size)++news++vs.drop ((len+nw.2.1)*i.size))++rest).toArray:=by
      rw [q2,← Nat.add_mul]
      simp only []
      have e1:len*i.size<=vs.length:=by
       have:len*i.size<=(len+nw.2.1)*i.size:=Nat.mul_le_mul_right _ (by omega)
       omega
      rw [List.take_append_of_le_length e1,List.drop_append_of_le_length (by omega)]
      simp
     refine ⟨MLe.set _ d3,fun _=>Qhf hg hb hσ h2 h4 (vs':=vs.take (len*i.size)++news++vs.drop ((len+nw.2.1)*i.size)) (((h3.take _).app q1).app (h3.drop _)) (.sl hσ) fun ty=>.inl (fin _ _ (fun ty=>?_) ty)⟩
     rw [← heq]
     exact hrun ty
  | false =>
   rw [hroom] at h
   simp only [cond_false] at h
   have hroom:¬len+nw.2.1<=cap:=fun hh=>by rw [Nat.ble_eq_true_of_le hh] at hroom;cases hroom
   cases hex:ex with
   | false =>
    rw [hex] at h
    simp only [cond_false] at h
    obtain ⟨hc,h9⟩:=Qam h
    clear h
    cases h9
    have hc:=QQ8 hc
    subst hex
    obtain ⟨news,q1,q2,q3⟩:=Qix (base:=some ⟨b,off,none⟩) (len:=len) (cap:=cap+cond false ee 0) (olds:=(vs.drop off).take (len*i.size)) hu hi' hiz hn (by omega) c3 (by simp;omega)
     (fun a ha j u hj=>by cases ha;rw [QaR];exact QeX h2 off _ j u hj) (fun h=>(by cases h)) (fun h=>(by cases h)) (by simp;omega) c5 c6
    refine ⟨MLe.new _ _,fun hf=>?_⟩
    obtain ⟨e2,g1,g2⟩:=grown ((cs.drop off).take (len*i.size)) ((vs.drop off).take (len*i.size)) news len (cap+cond false ee 0) (σ':=σ) (by simp;omega) c5 (by simp;omega) q2 ((h3.drop off).take _) q1
    refine QlJ hg rfl ⟨_,e2,_,g2.mono (Sig.le_up (hf (Nat.lt_succ_self _) _ (Nat.le_refl _) (Nat.lt_succ_self _)).1),?_,fin _ _ q3⟩
    rw [g1]
    exact .sl (ex:=true) Sig.up_self
   | true =>
    rw [hex] at h
    simp only [cond_true] at h
    obtain ⟨hc,h9⟩:=Qam h
    clear h
    cases h9
    subst hex
    simp only [Bool.and_eq_true,Bool.not_eq_true'] at hc
    obtain ⟨⟨⟨⟨⟨⟨d1,d2⟩,d3⟩,d4⟩,d5⟩,d6⟩,d7⟩:=hc
    have d1:=QdD d1
    have d2:=QdD d2
    have d3:=QdD d3
    have d4:=QdD d4
    have d6:=QhP d6
    subst d1;subst d3;subst d4;subst d5
    simp only [cond_true] at h4
    have hlk:len*i.size<=cap*i.size:=Nat.mul_le_mul_right _ hle
    refine ⟨(MLe.set .dead d6).trans (MLe.new _ _),fun hf=>?_⟩
    by_cases hfit:len+nw.2.1<=cap+ee
    ·
     obtain ⟨news,q1,q2,q3⟩:=hn
     rcases q3 with ⟨hz1,_⟩|⟨_,rfl,b2,c2',rfl,hnc,hn0⟩
     ·rw [hz1] at d7;cases d7
     ·cases b2 with
      | none=>have:=hn0 rfl;omega
      | some a2 =>
       have hone:=q1.ones c1
       have hmul:(len+nw.2.1)*i.size<=(cap+ee)*i.size:=Nat.mul_le_mul_right _ hfit
       rw [Nat.add_mul cap] at hmul
       have hle2:len*i.size+news.length<=(vs++rest).toArray.size:=by
        rw [q2,← Nat.add_mul];simp;omega
       have hrun:=fun ty=>run_append_room (P:=P) (w:=w) t0 ty T i hu hi' b len (cap+ee) (vs++rest).toArray h2 a2 nw.2.1 c2' news q2 (hnc a2 rfl) hone (by omega) hle2
       have hnk:cap*i.size<=(len+nw.2.1)*i.size:=Nat.mul_le_mul_right _ (by omega)
       intro hi h1 hhB hff
       have h1:m.c+1<=hi:=h1
       obtain ⟨f1,f2,f3⟩:=hff m.c (Nat.le_refl _) (by omega)
       refine ⟨_,_,σ.up m.c b (cap+ee-(len+nw.2.1)),?_,SLe.new f1 (Nat.le_refl _),?_,fun ty=>.inl (fin _ _ hrun ty)⟩
       ·have:cap+ee=len+nw.2.1+(cap+ee-(len+nw.2.1)):=by omega
        show Rel _ (.sl m.c 0 (len+nw.2.1) (len+nw.2.1) true) (.slice (some ⟨b,0,none⟩) (len+nw.2.1) (cap+ee))
        rw [this]
        have hq:len+nw.2.1+(cap+ee-(len+nw.2.1))-(len+nw.2.1)=cap+ee-(len+nw.2.1):=by omega
        rw [hq]
        exact .sl (ex:=true) Sig.up_self
       ·show Good B w0 M _ fr ((m.h.put nm (some .dead)).put m.c (some _)).get _
        rw [QbO,QbO]
        refine Good.move (b:=b) (e:=ee) (w':=w.setRow b _) hg hb rfl rfl hσ (by omega) f1 f3 f2 ⟨vs.take (len*i.size)++news,(vs++rest).drop ((len+nw.2.1)*i.size),?_,?_,?_⟩ (by simp) rfl rfl rfl (fun c hc=>setRow_other w b c _ hc) (setRow_heap w b _ _ T _ h2)
        ·exact ((h3.take _).app q1).mono (Sig.le_up f1)
        ·simp only [cond_true,List.length_drop,QQ7]
         rw [Nat.sub_mul,Nat.add_mul cap];omega
        ·rw [q2,← Nat.add_mul]
         simp only []
         rw [List.take_append_of_le_length (by omega)]
    ·obtain ⟨news,q1,q2,q3⟩:=Qix (base:=some ⟨b,0,none⟩) (len:=len) (cap:=cap+cond true ee 0) (olds:=vs.take (len*i.size)) hu hi' hiz hn (by omega) c3 (by simp;omega)
      (fun a ha j u hj=>by cases ha;rw [QaR];have:=QeX h2 0 (len*i.size) j u (by simpa using hj);simpa using this) (fun h=>(by cases h)) (fun h=>(by cases h)) (by simp;omega) c5 c6
     obtain ⟨e2,g1,g2⟩:=grown (cs.take (len*i.size)) (vs.take (len*i.size)) news len (cap+cond true ee 0) (σ':=σ) (by simp;omega) c5 (by simp;omega) q2 (h3.take _) q1
     intro hi h1 hhB hff
     have h1:m.c+1<=hi:=h1
     obtain ⟨f1,f2,f3⟩:=hff m.c (Nat.le_refl _) (by omega)
     refine ⟨_,_,σ.up m.c w.heap.size e2,?_,SLe.new f1 (Nat.le_refl _),?_,fun ty=>.inl (fin _ _ q3 ty)⟩
     ·rw [g1]
      exact .sl (ex:=true) Sig.up_self
     ·show Good B w0 M _ fr ((m.h.put nm (some .dead)).put m.c (some _)).get _
      rw [QbO,QbO]
      have hgd:=Good.kill hg.drew hb
      refine Good.new (w:=w.drew) hgd (by omega) f1 ?_ f2 rfl (g2.mono (Sig.le_up f1))
      show (if m.c=nm then some AB.dead else m.h.get m.c)=none
      rw [if_neg (by omega)]
      exact f3
end
end Go.Ce
namespace Go.Ce
open Go.RowKit Go.Vx
variable [Tok]
theorem Qbc {α:Type} {c:Bool} {o:Option α} {b:α}:cond c o none=some b↔c=true/\o=some b:=by cases c<;>simp
theorem Qbd {α:Type} {c:Bool} {o p b:α}:cond c o p=b↔(c=true/\o=b)∨(c=false/\p=b):=by cases c<;>simp
section
variable {C:Cfg} {P:Program} (HC:CfgOk C P) {n:Nat} {env:Tr AV} {m:Mem} {r:AV × Mem} {B:Nat} {op:Op}
theorem Qpd {t:Nat} (h:o_alloc C m t=some r):m.c<=r.2.c:=by
 unfold o_alloc at h
 repeat' first|(cases h;done)|(rw [Option.bind_eq_some_iff] at h;rcases h with ⟨_,_,h⟩)|(rw [Option.map_eq_some_iff] at h;rcases h with ⟨_,_,h⟩)|(rw [Qbc] at h;rcases h with ⟨_,h⟩)|(rw [Qbd] at h;rcases h with ⟨_,h⟩|⟨_,h⟩)|(split at h)
 all_goals first|exact Nat.le_refl _|exact Nat.le_succ _|(cases h;first|exact Nat.le_refl _|exact Nat.le_succ _)
theorem Qup {t:Nat} {x:Operand} (h:o_box n env m t x=some r):m.c<=r.2.c:=by
 unfold o_box at h
 repeat' first|(cases h;done)|(rw [Option.bind_eq_some_iff] at h;rcases h with ⟨_,_,h⟩)|(rw [Option.map_eq_some_iff] at h;rcases h with ⟨_,_,h⟩)|(rw [Qbc] at h;rcases h with ⟨_,h⟩)|(rw [Qbd] at h;rcases h with ⟨_,h⟩|⟨_,h⟩)|(split at h)
 all_goals first|exact Nat.le_refl _|exact Nat.le_succ _|(cases h;first|exact Nat.le_refl _|exact Nat.le_succ _)
theorem QoY {t:Nat} {a x:Operand} (h:o_store C n env m t a x=some r):m.c<=r.2.c:=by
 unfold o_store at h
 repeat' first|(cases h;done)|(rw [Option.bind_eq_some_iff] at h;rcases h with ⟨_,_,h⟩)|(rw [Option.map_eq_some_iff] at h;rcases h with ⟨_,_,h⟩)|(rw [Qbc] at h;rcases h with ⟨_,h⟩)|(rw [Qbd] at h;rcases h with ⟨_,h⟩|⟨_,h⟩)|(split at h)
 all_goals first|exact Nat.le_refl _|exact Nat.le_succ _|(cases h;first|exact Nat.le_refl _|exact Nat.le_succ _)
theorem Qvy {t l:Nat} {ps:Array (Nat × Operand)} (h:o_bs C n env m t l ps=some r):m.c<=r.2.c:=by
 unfold o_bs at h
 repeat' first|(cases h;done)|(rw [Option.bind_eq_some_iff] at h;rcases h with ⟨_,_,h⟩)|(rw [Option.map_eq_some_iff] at h;rcases h with ⟨_,_,h⟩)|(rw [Qbc] at h;rcases h with ⟨_,h⟩)|(rw [Qbd] at h;rcases h with ⟨_,h⟩|⟨_,h⟩)|(split at h)
 all_goals first|exact Nat.le_refl _|exact Nat.le_succ _|(cases h;first|exact Nat.le_refl _|exact Nat.le_succ _)
theorem Qvc {t:Nat} {x:Option Operand} (h:o_mm C n env m t x=some r):m.c<=r.2.c:=by
 unfold o_mm at h
 repeat' first|(cases h;done)|(rw [Option.bind_eq_some_iff] at h;rcases h with ⟨_,_,h⟩)|(rw [Option.map_eq_some_iff] at h;rcases h with ⟨_,_,h⟩)|(rw [Qbc] at h;rcases h with ⟨_,h⟩)|(rw [Qbd] at h;rcases h with ⟨_,h⟩|⟨_,h⟩)|(split at h)
 all_goals first|exact Nat.le_refl _|exact Nat.le_succ _|(cases h;first|exact Nat.le_refl _|exact Nat.le_succ _)
theorem Qt6 {t:Nat} {x k v:Operand} (h:o_map C n env m t x k v=some r):m.c<=r.2.c:=by
 unfold o_map at h
 repeat' first|(cases h;done)|(rw [Option.bind_eq_some_iff] at h;rcases h with ⟨_,_,h⟩)|(rw [Option.map_eq_some_iff] at h;rcases h with ⟨_,_,h⟩)|(rw [Qbc] at h;rcases h with ⟨_,h⟩)|(rw [Qbd] at h;rcases h with ⟨_,h⟩|⟨_,h⟩)|(split at h)
 all_goals first|exact Nat.le_refl _|exact Nat.le_succ _|(cases h;first|exact Nat.le_refl _|exact Nat.le_succ _)
theorem Qo4 {t:Nat} {x:Operand} (h:o_range C n env m t x=some r):m.c<=r.2.c:=by
 unfold o_range at h
 repeat' first|(cases h;done)|(rw [Option.bind_eq_some_iff] at h;rcases h with ⟨_,_,h⟩)|(rw [Option.map_eq_some_iff] at h;rcases h with ⟨_,_,h⟩)|(rw [Qbc] at h;rcases h with ⟨_,h⟩)|(rw [Qbd] at h;rcases h with ⟨_,h⟩|⟨_,h⟩)|(split at h)
 all_goals first|exact Nat.le_refl _|exact Nat.le_succ _|(cases h;first|exact Nat.le_refl _|exact Nat.le_succ _)
theorem Qu4 {t:Nat} {x y:Operand} (h:o_ms C n env m t x y=some r):m.c<=r.2.c:=by
 unfold o_ms at h
 repeat' first|(cases h;done)|(rw [Option.bind_eq_some_iff] at h;rcases h with ⟨_,_,h⟩)|(rw [Option.map_eq_some_iff] at h;rcases h with ⟨_,_,h⟩)|(rw [Qbc] at h;rcases h with ⟨_,h⟩)|(rw [Qbd] at h;rcases h with ⟨_,h⟩|⟨_,h⟩)|(split at h)
 all_goals first|exact Nat.le_refl _|exact Nat.le_succ _|(cases h;first|exact Nat.le_refl _|exact Nat.le_succ _)
theorem QpH {d:TypeDesc} {x y:AV} (h:o_copyN C m d x y=some r):m.c<=r.2.c:=by
 unfold o_copyN at h
 repeat' first|(cases h;done)|(rw [Option.bind_eq_some_iff] at h;rcases h with ⟨_,_,h⟩)|(rw [Option.map_eq_some_iff] at h;rcases h with ⟨_,_,h⟩)|(rw [Qbc] at h;rcases h with ⟨_,h⟩)|(rw [Qbd] at h;rcases h with ⟨_,h⟩|⟨_,h⟩)|(split at h)
 all_goals first|exact Nat.le_refl _|exact Nat.le_succ _|(cases h;first|exact Nat.le_refl _|exact Nat.le_succ _)
theorem QpM {d:TypeDesc} {x:AV} {q:Nat} (h:o_copyT C m d x q=some r):m.c<=r.2.c:=by
 unfold o_copyT at h
 repeat' first|(cases h;done)|(rw [Option.bind_eq_some_iff] at h;rcases h with ⟨_,_,h⟩)|(rw [Option.map_eq_some_iff] at h;rcases h with ⟨_,_,h⟩)|(rw [Qbc] at h;rcases h with ⟨_,h⟩)|(rw [Qbd] at h;rcases h with ⟨_,h⟩|⟨_,h⟩)|(split at h)
 all_goals first|exact Nat.le_refl _|exact Nat.le_succ _|(cases h;first|exact Nat.le_refl _|exact Nat.le_succ _)
theorem QrK {d:TypeDesc} {x y:AV} (h:o_copy C m d x y=some r):m.c<=r.2.c:=by
 unfold o_copy at h
 cases y with
 | tok q=>exact QpM h
 | _=>exact QpH h
theorem Qti {d:TypeDesc} {x y:AV} (h:o_del C m d x y=some r):m.c<=r.2.c:=by
 unfold o_del at h
 repeat' first|(cases h;done)|(rw [Option.bind_eq_some_iff] at h;rcases h with ⟨_,_,h⟩)|(rw [Option.map_eq_some_iff] at h;rcases h with ⟨_,_,h⟩)|(rw [Qbc] at h;rcases h with ⟨_,h⟩)|(rw [Qbd] at h;rcases h with ⟨_,h⟩|⟨_,h⟩)|(split at h)
 all_goals first|exact Nat.le_refl _|exact Nat.le_succ _|(cases h;first|exact Nat.le_refl _|exact Nat.le_succ _)
theorem Qpm {d:TypeDesc} {x:AV} (h:o_clear C m d x=some r):m.c<=r.2.c:=by
 unfold o_clear at h
 repeat' first|(cases h;done)|(rw [Option.bind_eq_some_iff] at h;rcases h with ⟨_,_,h⟩)|(rw [Option.map_eq_some_iff] at h;rcases h with ⟨_,_,h⟩)|(rw [Qbc] at h;rcases h with ⟨_,h⟩)|(rw [Qbd] at h;rcases h with ⟨_,h⟩|⟨_,h⟩)|(split at h)
 all_goals first|exact Nat.le_refl _|exact Nat.le_succ _|(cases h;first|exact Nat.le_refl _|exact Nat.le_succ _)
theorem Qrs {el k:Nat} {nw:List AV × Nat × Bool} {x:AV} (h:appX m el k nw x=some r):m.c<=r.2.c:=by
 unfold appX at h
 repeat' first|(cases h;done)|(rw [Option.bind_eq_some_iff] at h;rcases h with ⟨_,_,h⟩)|(rw [Option.map_eq_some_iff] at h;rcases h with ⟨_,_,h⟩)|(rw [Qbc] at h;rcases h with ⟨_,h⟩)|(rw [Qbd] at h;rcases h with ⟨_,h⟩|⟨_,h⟩)|(split at h)
 all_goals first|exact Nat.le_refl _|exact Nat.le_succ _|(cases h;first|exact Nat.le_refl _|exact Nat.le_succ _)
theorem Qtn {ts:List Nat} {x y:AV} (h:appA C m ts x y=some r):m.c<=r.2.c:=by
 unfold appA at h
 repeat' first|(cases h;done)|(rw [Option.bind_eq_some_iff] at h;rcases h with ⟨_,_,h⟩)|(rw [Option.map_eq_some_iff] at h;rcases h with ⟨_,_,h⟩)|(rw [Qbc] at h;rcases h with ⟨_,h⟩)|(rw [Qbd] at h;rcases h with ⟨_,h⟩|⟨_,h⟩)|(split at h)
 all_goals exact Qrs h
def Cm (m:Mem) (outs:List (AV × Mem)):Prop:=outs≠[]/\∀ o∈outs,m.c<=o.2.c
theorem cm1 {q:Option AV} {outs:List (AV × Mem)} (h:ret1 m q=some outs):∃ a,q=some a/\outs=[(a,m)]:=by
 obtain ⟨a,h1,h2⟩:=map_some h
 exact ⟨a,h1,h2.symm⟩
theorem cm2 {q:R1} {outs:List (AV × Mem)} (h:ret2 q=some outs):∃ a,q=some a/\outs=[a]:=by
 obtain ⟨a,h1,h2⟩:=map_some h
 exact ⟨a,h1,h2.symm⟩
theorem cmA {q:Option AV} {outs:List (AV × Mem)} (h:ret1 m q=some outs):Cm m outs:=by
 obtain ⟨a,_,rfl⟩:=cm1 h
 exact ⟨by simp,fun o ho=>by simp at ho;subst ho;exact Nat.le_refl _⟩
theorem cmB {q:R1} {outs:List (AV × Mem)} (h:ret2 q=some outs) (hq:∀ a,q=some a->m.c<=a.2.c):Cm m outs:=by
 obtain ⟨a,h1,rfl⟩:=cm2 h
 exact ⟨by simp,fun o ho=>by simp at ho;subst ho;exact hq _ h1⟩
def Qk8 (cf:Nat->List AV->Mem->RL):Prop:=∀ f args m outs,cf f args m=some outs->Cm m outs
theorem Qnt {cf yf:Nat->List AV->Mem->RL} (hcf:Qk8 cf) (hyf:Qk8 yf) {outs:List (AV × Mem)} (h:anyA C n env m cf yf op=some outs):Cm m outs:=by
 unfold anyA at h
 split at h<;>first
  | exact cmA h
  | exact cmB h fun _=>Qpd
  | exact cmB h fun _=>Qup
  | exact cmB h fun _=>Qvy
  | exact cmB h fun _=>Qt6
  | exact cmB h fun _=>QoY
  | exact cmB h fun _=>Qvc
  | exact cmB h fun _=>Qu4
  | exact cmB h fun _=>Qo4
  | (cases h;done)
  | skip
 unfold o_c at h
 split at h
 ·unfold o_call at h
  obtain ⟨vs,_,h⟩:=bind_some h
  split at h
  ·exact hcf _ _ _ _ h
  ·exact hyf _ _ _ _ h
  ·cases h
 ·unfold o_built at h
  obtain ⟨vs,_,h⟩:=bind_some h
  split at h
  ·unfold o_b1 at h
   obtain ⟨d,_,h⟩:=bind_some h
   split at h<;>first|exact cmA h|exact cmB h fun _=>Qpm|(cases h;done)
  ·unfold o_b2 at h
   split at h<;>first|exact cmA h|exact cmB h fun _=>Qtn|skip
   obtain ⟨d,_,h⟩:=bind_some h
   split at h<;>first|exact cmB h fun _=>QrK|exact cmB h fun _=>Qti|(cases h;done)
  ·cases h
 ·cases h
end
end Go.Ce
namespace Go.Ce
open Go.RowKit Go.Vx
variable [Tok]
structure Pre (B:Nat) (w0:World) (M:Nat->Prop) (σ:Sig) (fr:Nat->Res) (m:Mem) (w:World) (hi:Nat):Prop where
 gl:Gl σ
 good:Good B w0 M σ fr m.h.get w
 fresh:Fresh m.c hi σ fr m.h.get
 hb:hi<=B
def QoP (B:Nat) (w0:World) (M:Nat->Prop) (fr:Nat->Res) (σ:Sig) (m:Mem) (outs:List (AV × Mem)):Value->World->Prop :=
 fun v w'=>∃ o∈outs,∃ σ',Rel σ' o.1 v/\SLe m.c o.2.c σ σ'/\MLe m o.2/\Good B w0 M σ' fr o.2.h.get w'
def QfM (P:Program) (B:Nat) (cf:Nat->List AV->Mem->RL):Prop:=∀ f args m outs,cf f args m=some outs->∀ {w0:World} {M:Nat->Prop} [Inv w0 M] {σ:Sig} {fr:Nat->Res} {w:World} {hi:Nat} {vs:List Value},
 Pre B w0 M σ fr m w hi->(∀ o∈outs,o.2.c<=hi)->RelL σ args vs->QfH P (QoP B w0 M fr σ m outs) ((callFunc f vs.toArray).run P w)
def Qg9 (P:Program) (B:Nat) (yf:Nat->List AV->Mem->RL):Prop:=∀ nm args m outs,yf nm args m=some outs->∀ {w0:World} {M:Nat->Prop} [Inv w0 M] {σ:Sig} {fr:Nat->Res} {w:World} {hi b ee:Nat} {vs:List Value},
 Pre B w0 M σ fr m w hi->(∀ o∈outs,o.2.c<=hi)->RelL σ args vs->σ nm=some (b,ee)->QfH P (QoP B w0 M fr σ m outs) ((Instr.yield b vs.toArray).run P w)
section
variable {C:Cfg} {P:Program} (HC:CfgOk C P) {n:Nat} {env:Tr AV} {m:Mem} {B:Nat} {op:Op} {w0:World} {M:Nat->Prop} [Inv w0 M] {σ:Sig} {fr:Nat->Res} {w:World} {hi:Nat} {e:Operand->Value} {ty:TypeId}
theorem Qff {r:AV × Mem} (hp:Pre B w0 M σ fr m w hi) (hd:QcD op=true) (hb:r.2.c<=hi) (hm:MLe m r.2) (h:QcH P op e B w0 M σ fr m w r):opW P op ty e w (QoP B w0 M fr σ m [r]):=by
 obtain ⟨V,w',σ',h1,h2,h3,h4⟩:=h hi hb hp.hb hp.fresh
 rcases h4 ty with h5|⟨h6,h5⟩
 ·exact QaO h5 ⟨r,by simp,σ',h1,h2,hm,h3⟩ hd
 ·subst h6;exact QkJ h5 ⟨r,by simp,σ',h1,h2,hm,h3⟩ hd
theorem QfR {q:Option AV} {outs:List (AV × Mem)} (h:ret1 m q=some outs) (hp:Pre B w0 M σ fr m w hi) (hd:QcD op=true) (hb:∀ o∈outs,o.2.c<=hi) (hq:∀ a,q=some a->Qba P op e w σ a):opW P op ty e w (QoP B w0 M fr σ m outs):=by
 obtain ⟨a,h1,rfl⟩:=cm1 h
 exact Qff hp hd (hb _ (by simp)) (MLe.refl _) (Qcs hp.good (hq a h1))
theorem QqQ {q:R1} {outs:List (AV × Mem)} (h:ret2 q=some outs) (hp:Pre B w0 M σ fr m w hi) (hd:QcD op=true) (hb:∀ o∈outs,o.2.c<=hi) (hq:∀ a,q=some a->MLe m a.2/\QcH P op e B w0 M σ fr m w a):opW P op ty e w (QoP B w0 M fr σ m outs):=by
 obtain ⟨a,h1,rfl⟩:=cm2 h
 exact Qff hp hd (hb _ (by simp)) (hq a h1).1 (hq a h1).2
theorem Qtk {q:R1} {outs:List (AV × Mem)} (h:ret2 q=some outs) (hp:Pre B w0 M σ fr m w hi) (hd:QcD op=true) (hb:∀ o∈outs,o.2.c<=hi) (hq:∀ a,q=some a->MLe m a.2/\((m.c<a.2.c->Fresh m.c (m.c+1) σ fr m.h.get)->QcH P op e B w0 M σ fr m w a)):opW P op ty e w (QoP B w0 M fr σ m outs):=by
 obtain ⟨a,h1,rfl⟩:=cm2 h
 obtain ⟨h2,h3⟩:=hq a h1
 exact Qff hp hd (hb _ (by simp)) h2 fun hi' a1 a2 a3=>h3 (fun hlt x hx1 hx2=>a3 x hx1 (by omega)) hi' a1 a2 a3
theorem QuQ {t:Nat} {x:Operand} {r:AV × Mem} (h:o_box n env m t x=some r):m.c<r.2.c:=by
 unfold o_box at h
 repeat' first|(cases h;done)|(rw [Option.bind_eq_some_iff] at h;rcases h with ⟨_,_,h⟩)|(rw [Option.map_eq_some_iff] at h;rcases h with ⟨_,_,h⟩)|(rw [Qbc] at h;rcases h with ⟨_,h⟩)|(rw [Qbd] at h;rcases h with ⟨_,h⟩|⟨_,h⟩)|(split at h)
 all_goals (cases h;exact Nat.lt_succ_self _)
theorem QvW {t l:Nat} {ps:Array (Nat × Operand)} {r:AV × Mem} (h:o_bs C n env m t l ps=some r):m.c<r.2.c:=by
 unfold o_bs at h
 repeat' first|(cases h;done)|(rw [Option.bind_eq_some_iff] at h;rcases h with ⟨_,_,h⟩)|(rw [Option.map_eq_some_iff] at h;rcases h with ⟨_,_,h⟩)|(rw [Qbc] at h;rcases h with ⟨_,h⟩)|(rw [Qbd] at h;rcases h with ⟨_,h⟩|⟨_,h⟩)|(split at h)
 all_goals (cases h;exact Nat.lt_succ_self _)
theorem Qpq {t:Nat} {x:Operand} {r:AV × Mem} (h:o_range C n env m t x=some r):m.c<r.2.c:=by
 unfold o_range at h
 repeat' first|(cases h;done)|(rw [Option.bind_eq_some_iff] at h;rcases h with ⟨_,_,h⟩)|(rw [Option.map_eq_some_iff] at h;rcases h with ⟨_,_,h⟩)|(rw [Qbc] at h;rcases h with ⟨_,h⟩)|(rw [Qbd] at h;rcases h with ⟨_,h⟩|⟨_,h⟩)|(split at h)
 all_goals (cases h;exact Nat.lt_succ_self _)
theorem Qvq {t:Nat} {x y:Operand} {r:AV × Mem} (h:o_ms C n env m t x y=some r):m.c<r.2.c:=by
 unfold o_ms at h
 repeat' first|(cases h;done)|(rw [Option.bind_eq_some_iff] at h;rcases h with ⟨_,_,h⟩)|(rw [Option.map_eq_some_iff] at h;rcases h with ⟨_,_,h⟩)|(rw [Qbc] at h;rcases h with ⟨_,h⟩)|(rw [Qbd] at h;rcases h with ⟨_,h⟩|⟨_,h⟩)|(split at h)
 all_goals (cases h;exact Nat.lt_succ_self _)
include HC
theorem QqP {cf yf:Nat->List AV->Mem->RL} (hcf:QfM P B cf) (hyf:Qg9 P B yf) {outs:List (AV × Mem)} (h:anyA C n env m cf yf op=some outs) (hp:Pre B w0 M σ fr m w hi) (hb:∀ o∈outs,o.2.c<=hi) (H:HE n env e σ op.operands.toList):opW P op ty e w (QoP B w0 M fr σ m outs):=by
 have hg:=hp.good
 unfold anyA at h
 split at h<;>(try simp only [Op.operands,List.append_toArray,List.toList_toArray] at H)<;>first
  | (cases h;done)
  | exact QfR h hp rfl hb fun _=>Quz H
  | exact QfR h hp rfl hb fun _=>QpX H
  | exact QfR h hp rfl hb fun _=>Quq H
  | exact QqQ h hp rfl hb fun _=>Qrp HC hg
  | exact Qtk h hp rfl hb fun _ hq=>⟨(QtW (P:=P) H hg hq).1,fun hf=>(QtW H hg hq).2 (hf (QuQ hq))⟩
  | exact QfR h hp rfl hb fun _=>QrT HC (by simpa using H)
  | exact Qtk h hp rfl hb fun _ hq=>⟨(Qwd HC (by simpa using H) hg hq).1,fun hf=>(Qwd HC (by simpa using H) hg hq).2 (hf (QvW hq))⟩
  | exact QqQ h hp rfl hb fun _ hq=>Qts HC true H hg hq
  | exact QqQ h hp rfl hb fun _ hq=>Qts HC false H hg hq
  | exact QfR h hp rfl hb fun _ hq=>Qmu HC H hg hq
  | exact QqQ h hp rfl hb fun _ hq=>QsN HC H hg hq
  | exact QfR h hp rfl hb fun _=>Qvw H
  | exact QfR h hp rfl hb fun _=>Qv0 HC H
  | exact QfR h hp rfl hb fun _=>Qwt H
  | exact QfR h hp rfl hb fun _=>QtH HC H
  | exact QfR h hp rfl hb fun _=>Qv2 HC H
  | exact QfR h hp rfl hb fun _=>Qwk HC H
  | exact QfR h hp rfl hb fun _=>Qwl (by simpa using H)
  | exact QqQ h hp rfl hb fun _ hq=>Qwy HC (by simpa using H) hg hq
  | exact Qtk h hp rfl hb fun _ hq=>⟨(Qwi HC H hg hq).1,fun hf=>(Qwi HC H hg hq).2 (hf (Qvq hq))⟩
  | exact QfR h hp rfl hb fun _=>QrP HC (by simpa using H)
  | exact QfR h hp rfl hb fun _=>Qwv HC H
  | exact QfR h hp rfl hb fun _=>Qsw HC H
  | exact QfR h hp rfl hb fun _=>Qwq HC H
  | exact QfR h hp rfl hb fun _=>Qwo HC H
  | exact QfR h hp rfl hb fun _ hq=>Qq6 HC H hg hq
  | exact Qtk h hp rfl hb fun _ hq=>⟨(Qmt HC H hg hq).1,fun hf=>(Qmt HC H hg hq).2 (hf (Qpq hq))⟩
  | exact QfR h hp rfl hb fun _ hq=>Qro H hg hq
  | exact QfR h hp rfl hb fun _=>Qwn HC H
  | exact QfR h hp rfl hb fun _=>Qvx H
  | skip
 rename_i c
 unfold o_c at h
 obtain ⟨callee,args,ts⟩:=c
 cases callee with
 | invoke _ _=>cases h
 | value f =>
  dsimp only at h
  unfold o_call at h
  obtain ⟨vs,hvs,h⟩:=bind_some h
  have Ha:HE n env e σ args.toList:=H.sub fun y hy=>by simp [Op.operands,Call.operands] at hy ⊢;exact .inr hy
  have hr:=Qfn Ha hvs
  have hmap:args.map e=(args.toList.map e).toArray:=by obtain ⟨l⟩:=args;simp
  cases hf:aev n env f with
  | none=>rw [hf] at h;cases h
  | some v =>
  rw [hf] at h
  have rf:=H f (by simp [Op.operands,Call.operands]) v hf
  generalize ef:e f=F at rf
  cases v<;>first|(cases h;done)|skip
  ·rename_i ff caps
   cases rf with|@fn _ _ vcs hc=>?_
   have:=hcf _ _ _ _ h hp hb (hr.app hc)
   refine ⟨rfl,?_⟩
   have hX:X P (.call { callee:=.value f,args,argTypes:=ts }) ty e w=(callFunc ff (args.toList.map e++vcs).toArray).run P w:=by
    simp only [X,execOp,resolve,hmap,ef,Deferred.ofValue,Sem.run_bind,Sem.run_pure,Result.andThen_ok,invoke,List.append_toArray,List.nil_append]
   show QfH P _ (X P (.call { callee:=.value f,args,argTypes:=ts }) ty e w)
   rw [hX]
   exact this
  ·rename_i nm
   cases rf with|@y _ b ee hσ=>?_
   have:=hyf _ _ _ _ h hp hb hr hσ
   refine ⟨rfl,?_⟩
   have hX:X P (.call { callee:=.value f,args,argTypes:=ts }) ty e w=(Instr.yield b (args.toList.map e).toArray).run P w:=by
    simp only [X,execOp,resolve,hmap,ef,Deferred.ofValue,Sem.run_bind,Sem.run_pure,Result.andThen_ok,invoke,Array.empty_append]
   show QfH P _ (X P (.call { callee:=.value f,args,argTypes:=ts }) ty e w)
   rw [hX]
   exact this
 | builtin b =>
  dsimp only at h
  unfold o_built at h
  obtain ⟨vs,hvs,h⟩:=bind_some h
  have hr:=Qfn (H.sub fun y hy=>by simp [Op.operands,Call.operands] at hy ⊢;exact hy) hvs
  generalize hvv:args.toList.map e=VV at hr
  split at h
  ·cases hr with|cons r1 t=>?_
   cases t
   unfold o_b1 at h
   obtain ⟨d,hd,h⟩:=bind_some h
   split at h<;>first
    | (cases h;done)
    | exact QfR h hp rfl hb fun _ hq=>Qt2 HC hvv r1 hd hg hq
    | exact QfR h hp rfl hb fun _ hq=>Qvr HC hvv r1 hd hq
    | exact QqQ h hp rfl hb fun _ hq=>Qr5 HC hvv r1 hd hg hq
  ·cases hr with|cons r1 t=>?_
   cases t with|cons r2 t=>?_
   cases t
   unfold o_b2 at h
   split at h<;>first
    | exact QfR h hp rfl hb fun _ hq=>Qws HC hvv r1 r2 hq
    | exact QfR h hp rfl hb fun _ hq=>Qww HC hvv r1 r2 hq
    | exact Qtk h hp rfl hb fun _ hq=>Qwb HC hvv r1 r2 hg hq
    | skip
   obtain ⟨d,hd,h⟩:=bind_some h
   split at h<;>first
    | (cases h;done)
    | exact QqQ h hp rfl hb fun _ hq=>QtO HC hvv r1 r2 hd hg hq
    | exact QqQ h hp rfl hb fun _ hq=>QvI HC hvv r1 r2 hd hg hq
  ·cases h
end
end Go.Ce
namespace Go.Ce
open Go.RowKit Go.Vx
variable [Tok]
open Go.ChangeMaps (setBlock)
section
variable {C:Cfg} {P:Program} (HC:CfgOk C P) {n:Nat} {env:Tr AV} {m:Mem} {B:Nat} {op:Op} {w0:World} {M:Nat->Prop} [Inv w0 M] {σ:Sig} {fr:Nat->Res} {w:World} {hi:Nat} {e:Operand->Value} {ty:TypeId}
theorem RelM.mem {l:List (AV × AV × Nat)} {vs:List MapEntry} (h:RelM σ l vs) {a:MapEntry} (ha:a∈vs):∃ q∈l,Rel σ q.1 a.key/\Rel σ q.2.1 a.val/\q.2.2=a.born:=by
 induction h with
 | nil=>cases ha
 | @cons k v b kv vv l es hk hv t ih =>
  rcases List.mem_cons.1 ha with rfl|ha
  ·exact ⟨(k,v,b),List.mem_cons_self,hk,hv,rfl⟩
  ·obtain ⟨q,h1,h2⟩:=ih ha
   exact ⟨q,by simp [h1],h2⟩
theorem RelM.mem' {l:List (AV × AV × Nat)} {vs:List MapEntry} (h:RelM σ l vs) {q:AV × AV × Nat} (hq:q∈l):∃ a∈vs,q.2.2=a.born:=by
 induction h with
 | nil=>cases hq
 | @cons k v b kv vv l es hk hv t ih =>
  rcases List.mem_cons.1 hq with rfl|hq
  ·exact ⟨⟨kv,vv,b⟩,List.mem_cons_self,rfl⟩
  ·obtain ⟨a,h1,h2⟩:=ih hq
   exact ⟨a,by simp [h1],h2⟩
theorem Qs8 (l:List Nat) (x:Nat):l.any (Nat.beq x)=l.contains x:=by
 induction l with
 | nil=>rfl
 | cons a l ih=>rw [List.any_cons,List.contains_cons,ih];congr 1;rw [QbT];rfl
theorem Qgr {x:Operand} {outs:List (AV × Mem)} (h:nextA n env m x=some outs) (hp:Pre B w0 M σ fr m w hi) (H:HE n env e σ [x]):opW P (.next x false) ty e w (QoP B w0 M fr σ m outs):=by
 have hg:=hp.good
 unfold nextA at h
 cases hx:aev n env x with
 | none=>rw [hx] at h;cases h
 | some v =>
 rw [hx] at h
 have r1:=H x (by simp) v hx
 generalize e1:e x=V1 at r1
 cases v<;>first|(cases h;done)|skip
 rename_i it off
 cases off with
 | succ _=>cases h
 | zero =>
 simp only at h
 cases r1 with|@p _ _ b ee hσ=>?_
 cases hb:m.h.get it with
 | none=>rw [hb] at h;cases h
 | some blk =>
 rw [hb] at h
 cases blk<;>first|(cases h;done)|skip
 rename_i mm since seen last
 obtain ⟨b',e',mb,h1,h2,h3⟩:=hg.it hb
 rw [hσ] at h1;cases h1
 cases mm with
 | none =>
  cases h
  cases h3
  refine QaO (w':=w) ?_ ⟨_,List.mem_cons_self,σ,.tu (.cons (.b _) .nil),SLe.refl _ _ _,MLe.refl _,hg⟩
  have hgo:(getObj b).run P w = .ok (.mapIter none since seen.toArray last) w:=QdQ h2 (by simp)
  simp only [execOp,e1,Instr.next,Sem.run_bind,hgo,Result.andThen_ok,Sem.run_pure]
 | some nm =>
 simp only at h
 obtain ⟨b2,e2,hσ2,rfl⟩:=h3
 cases hb2:m.h.get nm with
 | none=>rw [hb2] at h;cases h
 | some blk2 =>
 rw [hb2] at h
 cases blk2<;>first|(cases h;done)|skip
 rename_i es clock
 simp only at h
 obtain ⟨hc,h9⟩:=Qam h
 clear h
 obtain ⟨b3,e3,ves,h4,h5,h6⟩:=hg.mp hb2
 rw [hσ2] at h4;cases h4
 simp only [Bool.and_eq_true] at hc
 obtain ⟨⟨⟨c1,c2⟩,c3⟩,c4⟩:=hc
 have c1:=QdD c1
 have c2:=QdD c2
 have c3:=QhP c3
 subst c1
 subst c2
 have hold:∀ x∈ves.toArray.toList,x.born<clock:=fun y hy=>by
  obtain ⟨q,hq,_,_,hq2⟩:=h6.mem (by simpa using hy)
  rw [← hq2]
  have:=List.all_eq_true.1 c4 q hq
  exact QhP this
 have hcont:∀ y:Nat,seen.toArray.contains y=seen.any (Nat.beq y):=fun y=>by rw [Qs8];simp
 have hleft:∀ a,a∈(leftOf ves.toArray seen.toArray).toList->a∈ves/\seen.any (Nat.beq a.born)=false:=fun a ha=>by
  simp only [leftOf,Array.toList_filter,List.mem_filter] at ha
  rw [hcont] at ha
  simpa using ha
 rcases run_next_at (P:=P) w ty b b2 clock clock seen.toArray ves.toArray clock h2 h5 hold (Nat.le_refl _) with ⟨q1,q2⟩|⟨a,ha,w1,hw1,q2⟩
 ·have hnil:(es.filter fun e=>!(seen.any (Nat.beq e.2.2)))=[]:=by
   rw [List.filter_eq_nil_iff]
   intro q hq hq2
   obtain ⟨a,ha,hab⟩:=h6.mem' hq
   have:a∈(leftOf ves.toArray seen.toArray).toList:=by
    simp only [leftOf,Array.toList_filter,List.mem_filter]
    rw [hcont,← hab]
    exact ⟨by simpa using ha,hq2⟩
   have h0:(leftOf ves.toArray seen.toArray).toList=[]:=List.eq_nil_of_length_eq_zero (by simpa using q1)
   rw [h0] at this
   cases this
  rw [hnil] at h9
  cases h9
  refine QaO (w':=w) ?_ ⟨_,List.mem_cons_self,σ,.tu (.cons (.b _) .nil),SLe.refl _ _ _,MLe.refl _,hg⟩
  simp only [execOp,e1,Sem.run_bind,q2,Result.andThen_ok,Sem.run_pure]
 ·obtain ⟨ha1,ha2⟩:=hleft a (by simpa using ha)
  obtain ⟨q,hq,hk,hv,hq2⟩:=h6.mem ha1
  have hmem:q∈es.filter fun e=>!(seen.any (Nat.beq e.2.2)):=by
   rw [List.mem_filter,hq2,ha2]
   exact ⟨hq,rfl⟩
  have hout:(AV.tu [.b true,q.1,q.2.1],m.set it (.it (some nm) clock (seen++[q.2.2]) clock))∈outs:=by
   cases hl:(es.filter fun e=>!(seen.any (Nat.beq e.2.2))) with
   | nil=>rw [hl] at hmem;cases hmem
   | cons q' l =>
    rw [hl] at h9 hmem
    simp only [Option.some.injEq] at h9
    rw [← h9]
    exact List.mem_map.2 ⟨q,hmem,rfl⟩
  have hg1:Good B w0 M σ fr m.h.get w1:=by rcases hw1 with rfl|rfl;exact hg;exact hg.drew
  have hit1:w1.heap[b]?=some (.mapIter (some b2) clock seen.toArray clock):=by rcases hw1 with rfl|rfl;exact h2;exact h2
  refine QaO (w':=setBlock w1 b (.mapIter (some b2) clock (seen.toArray.push a.born) clock)) ?_ ⟨_,hout,σ,.tu (.cons (.b _) (.cons hk (.cons hv .nil))),SLe.refl _ _ _,MLe.set _ c3,?_⟩
  ·simp only [execOp,e1,Sem.run_bind,q2,Result.andThen_ok,Sem.run_pure]
  ·show Good B w0 M _ fr (m.h.put it (some _)).get _
   rw [QbO]
   exact hg1.put hb rfl rfl hσ ⟨some b2,⟨b2,e2,hσ2,rfl⟩,by rw [hq2];simp⟩ (Qij _ _ _) rfl rfl rfl (fun c hc=>Qkh _ _ _ _ hc) (QjW hit1 _)
theorem Qsm {x:Operand} {outs:List (AV × Mem)} (h:nextA n env m x=some outs):Cm m outs:=by
 unfold nextA at h
 split at h
 ·split at h
  ·cases h;exact ⟨by simp,fun o ho=>by simp at ho;subst ho;exact Nat.le_refl _⟩
  ·split at h
   ·obtain ⟨_,h⟩:=Qam h
    split at h
    ·cases h;exact ⟨by simp,fun o ho=>by simp at ho;subst ho;exact Nat.le_refl _⟩
    ·rename_i l hne
     cases h
     refine ⟨by simpa using hne,fun o ho=>?_⟩
     obtain ⟨q,_,rfl⟩:=List.mem_map.1 ho
     exact Nat.le_refl _
   ·cases h
  ·cases h
 ·cases h
end
end Go.Ce
namespace Go.Ce
open Go.RowKit Go.Vx
variable [Tok]
inductive RelD (σ:Sig):List DF->List Deferred->Prop where
 | nil:RelD σ [] []
 | mk {nm b e:Nat} {ds:List DF} {dsv:List Deferred} (h:σ nm=some (b,e)) (t:RelD σ ds dsv):RelD σ (.mk nm :: ds) ({ target:=.collected b,args:=#[] } :: dsv)
 | fn {f:Nat} {args:List AV} {vs cs:List Value} {ds:List DF} {dsv:List Deferred} (h:RelL σ args (vs++cs)) (t:RelD σ ds dsv):RelD σ (.fn f args :: ds) ({ target:=.fn (.func f) cs.toArray,args:=vs.toArray } :: dsv)
theorem RelD.mono {σ σ':Sig} (hl:Le σ σ'):∀ {ds:List DF} {dsv:List Deferred},RelD σ ds dsv->RelD σ' ds dsv
 | _,_,.nil=>.nil
 | _,_,.mk h t=>.mk (hl _ _ h) (t.mono hl)
 | _,_,.fn h t=>.fn (h.mono hl) (t.mono hl)
def FR (rd:Option Nat):Fence:={ Fence.wide with round:=rd }
def QiQ (n:Nat) (Q:Ex->List Deferred->Env->World->Prop):Exit->Act->World->Prop
 | .normal,a,w=>∃ ds J,a=frd n ds J/\Q .nm ds J w
 | .ret,a,w=>∃ ds J,a=frd n ds J/\Q .rt ds J w
 | .exit i,a,w=>∃ ds J,a=frd n ds J/\Q (.ex i) ds J w
 | _,_,_=>False
def QiZ (B:Nat) (w0:World) (M:Nat->Prop) (fr:Nat->Res) (σ:Sig) (m:Mem) (outs:List Out):Ex->List Deferred->Env->World->Prop :=
 fun x dsv J w'=>∃ o∈outs,o.x=x/\∃ σ',Qgm σ' o.env J/\RelD σ' o.ds dsv/\SLe m.c o.m.c σ σ'/\MLe m o.m/\Good B w0 M σ' fr o.m.h.get w'
def CmO (m:Mem) (outs:List Out):Prop:=outs≠[]/\∀ o∈outs,m.c<=o.m.c
def QeJ (run:Run):Prop:=∀ n rd c env ds m outs,run n rd c env ds m=some outs->CmO m outs
def Qjd (P:Program) (B:Nat) (run:Run):Prop:=∀ n rd c env ds m outs,run n rd c env ds m=some outs->∀ {w0:World} {M:Nat->Prop} [Inv w0 M] {σ:Sig} {fr:Nat->Res} {w:World} {hi:Nat} {J:Env} {dsv:List Deferred} {rdv:Option Nat},
 Pre B w0 M σ fr m w hi->(∀ o∈outs,o.m.c<=hi)->Qgm σ env J->RelD σ ds dsv->rd=rdv.isSome->c.wpIn (FR rdv) 0 P (QiQ n (QiZ B w0 M fr σ m outs)) (frd n dsv J) w
section
variable {C:Cfg} {P:Program} (HC:CfgOk C P) {n:Nat} {env:Tr AV} {m:Mem} {B:Nat} {w0:World} {M:Nat->Prop} [Inv w0 M] {σ:Sig} {fr:Nat->Res} {w:World} {hi:Nat} {rdv:Option Nat}
theorem Pre.next {m':Mem} {σ':Sig} {w':World} (hp:Pre B w0 M σ fr m w hi) (h1:SLe m.c m'.c σ σ') (h2:MLe m m') (h3:Good B w0 M σ' fr m'.h.get w'):Pre B w0 M σ' fr m' w' hi :=
 ⟨hp.gl.mono h1.le,h3,hp.fresh.next h1 h2,hp.hb⟩
theorem Qfj {k:Out->Option (List Out)}:∀ {l outs:List Out},goO k l=some outs->∀ o∈l,∃ l',k o=some l'/\∀ x∈l',x∈outs
 | [],_,_,_,h=>by cases h
 | o :: l,outs,h,o',ho'=>by
  have h:((k o).bind fun a=>(goO k l).bind fun b=>some (a++b))=some outs:=h
  obtain ⟨a,ha,h⟩:=bind_some h
  obtain ⟨b,hb,h⟩:=bind_some h
  cases h
  rcases List.mem_cons.1 ho' with rfl|ho'
  ·exact ⟨a,ha,fun x hx=>by simp [hx]⟩
  ·obtain ⟨l',h1,h2⟩:=Qfj hb o' ho'
   exact ⟨l',h1,fun x hx=>by simp [h2 x hx]⟩
theorem Qmi {k:Out->Option (List Out)}:∀ {l outs:List Out} {m:Mem},goO k l=some outs->CmO m l->(∀ o∈l,∀ l',k o=some l'->CmO o.m l')->CmO m outs
 | [],_,_,_,h,_=>absurd rfl h.1
 | o :: l,outs,m,h,hl,hk=>by
  have h:((k o).bind fun a=>(goO k l).bind fun b=>some (a++b))=some outs:=h
  obtain ⟨a,ha,h⟩:=bind_some h
  obtain ⟨b,hb,h⟩:=bind_some h
  cases h
  have h1:=hk o (by simp) a ha
  refine ⟨fun e=>h1.1 (List.append_eq_nil_iff.1 e).1,fun x hx=>?_⟩
  rcases List.mem_append.1 hx with hx|hx
  ·exact Nat.le_trans (hl.2 o (by simp)) (h1.2 x hx)
  ·cases l with
   | nil=>cases hb;cases hx
   | cons o2 l2=>exact (Qmi hb ⟨by simp,fun x hx=>hl.2 x (by simp [hx])⟩ fun o ho=>hk o (by simp [ho])).2 x hx
theorem Qmy {k:Tr AV->List DF->Mem->Option (List Out)} (hk:∀ env ds m l,k env ds m=some l->CmO m l) {o:Out} {l:List Out} (h:thn k o=some l):CmO o.m l:=by
 unfold thn at h
 split at h
 ·exact hk _ _ _ _ h
 ·cases h;exact ⟨by simp,fun x hx=>by simp at hx;subst hx;exact Nat.le_refl _⟩
theorem QeH {k:AV × Mem->Option (List Out)}:∀ {l:List (AV × Mem)} {outs:List Out},manyA k l=some outs->∀ o∈l,∃ l',k o=some l'/\∀ x∈l',x∈outs
 | [],_,_,_,h=>by cases h
 | o :: l,outs,h,o',ho'=>by
  have h:((k o).bind fun a=>(manyA k l).bind fun b=>some (a++b))=some outs:=h
  obtain ⟨a,ha,h⟩:=bind_some h
  obtain ⟨b,hb,h⟩:=bind_some h
  cases h
  rcases List.mem_cons.1 ho' with rfl|ho'
  ·exact ⟨a,ha,fun x hx=>by simp [hx]⟩
  ·obtain ⟨l',h1,h2⟩:=QeH hb o' ho'
   exact ⟨l',h1,fun x hx=>by simp [h2 x hx]⟩
theorem QfY {k:AV × Mem->Option (List Out)}:∀ {l:List (AV × Mem)} {outs:List Out} {m:Mem},manyA k l=some outs->Cm m l->(∀ o∈l,∀ l',k o=some l'->CmO o.2 l')->CmO m outs
 | [],_,_,_,h,_=>absurd rfl h.1
 | o :: l,outs,m,h,hl,hk=>by
  have h:((k o).bind fun a=>(manyA k l).bind fun b=>some (a++b))=some outs:=h
  obtain ⟨a,ha,h⟩:=bind_some h
  obtain ⟨b,hb,h⟩:=bind_some h
  cases h
  have h1:=hk o (by simp) a ha
  refine ⟨fun e=>h1.1 (List.append_eq_nil_iff.1 e).1,fun x hx=>?_⟩
  rcases List.mem_append.1 hx with hx|hx
  ·exact Nat.le_trans (hl.2 o (by simp)) (h1.2 x hx)
  ·cases l with
   | nil=>cases hb;cases hx
   | cons o2 l2=>exact (QfY hb ⟨by simp,fun x hx=>hl.2 x (by simp [hx])⟩ fun o ho=>hk o (by simp [ho])).2 x hx
theorem Qgm.put {env:Tr AV} {J:Env} {d:Option Nat} {a:AV} {v:Value} (h:Qgm σ env J) (hr:Rel σ a v):Qgm σ (putO env d a) (QdB J d v):=by
 cases d with
 | none=>exact h
 | some d =>
  intro t u ht0
  have ht:(env.put d (some a)).get t=some u:=ht0
  clear ht0
  rw [Tr.get_put] at ht
  show Rel σ u (upd J d v t)
  rw [QdU]
  split at ht
  ·rename_i e;subst e;cases ht;rw [if_pos rfl];exact hr
  ·rename_i e;rw [if_neg e];exact h t u ht
theorem Qsf {all:List Oper} {o:Oper} {J:Env} {q:Bool} (h:wantA n all env o=some q) (hE:Qgm σ env J):Region.wanted o (yielded all.toArray (frd n [] J).tmps)=q:=by
 unfold wantA at h
 unfold Region.wanted
 cases hg:o.guard with
 | none=>rw [hg] at h;cases h;rfl
 | some jw =>
  obtain ⟨j,want⟩:=jw
  rw [hg] at h
  dsimp only at h ⊢
  obtain ⟨q',hq',ha⟩:=bind_some h
  clear h
  obtain ⟨d,hd,h3⟩:=bind_some ha
  clear ha
  obtain ⟨hb,h2⟩:=Qam h3
  clear h3
  obtain ⟨v,hv,h⟩:=bind_some h2
  clear h2
  have hr:=hE d v hv
  have hgv:gv n J all j=J d:=by
   unfold gv
   rw [hq',]
   dsimp only
   rw [hd]
   dsimp only
   rw [hb]
   rfl
  rw [Qfu,hgv]
  generalize J d=V at hr
  cases v<;>first|(cases h;done)|skip
  ·cases h;cases hr
   rename_i t
   cases t<;>cases want<;>rfl
  ·cases h;cases hr;rfl
theorem QhM {cf yf:Nat->List AV->Mem->RL} (hcf:Qk8 cf) (hyf:Qk8 yf) {rd:Bool} {all:List Oper}:∀ {l:List Oper} {env:Tr AV} {ds:List DF} {m:Mem} {outs:List Out},ordA C n rd cf yf all l env ds m=some outs->CmO m outs
 | [],env,ds,m,outs,h=>by
  cases h
  exact ⟨by simp,fun x hx=>by simp at hx;subst hx;exact Nat.le_refl _⟩
 | o :: l,env,ds,m,outs,h=>by
  have h:((wantA n all env o).bind fun q=>cond q
   (match o.op with
    | .next x false=>(nextA n env m x).bind (manyA fun v=>ordA C n rd cf yf all l (putO env o.dst v.1) ds v.2)
    | .defer { callee:=.value f,args,.. }=>cond rd none ((aev n env f).bind fun f=>(aevs n env args.toList).bind fun vs =>
      (match f with|.fn f caps=>ordA C n rd cf yf all l (putO env o.dst (.tu [])) (.fn f (vs++caps) :: ds) m|_=>none))
    | op=>(anyA C n env m cf yf op).bind (manyA fun v=>ordA C n rd cf yf all l (putO env o.dst v.1) ds v.2))
   (ordA C n rd cf yf all l (putO env o.dst (.tu [])) ds m))=some outs:=h
  obtain ⟨q,hq,h⟩:=bind_some h
  cases q with
  | false=>exact QhM hcf hyf h
  | true =>
   simp only [cond_true] at h
   split at h
   ·obtain ⟨vs,hvs,h⟩:=bind_some h
    exact QfY h (Qsm hvs) fun o _ l' hl'=>QhM hcf hyf hl'
   ·obtain ⟨_,h⟩:=Qco h
    obtain ⟨_,_,h⟩:=bind_some h
    obtain ⟨_,_,h⟩:=bind_some h
    split at h
    ·exact QhM hcf hyf h
    ·cases h
   ·obtain ⟨vs,hvs,h⟩:=bind_some h
    exact QfY h (Qnt hcf hyf hvs) fun o _ l' hl'=>QhM hcf hyf hl'
theorem QiZ.step {outs l:List Out} {m':Mem} {σ':Sig} {x:Ex} {dsv:List Deferred} {J:Env} (hm:∀ o∈l,o∈outs) (h1:SLe m.c m'.c σ σ') (h2:MLe m m') (h:QiZ B w0 M fr σ' m' l x dsv J w):QiZ B w0 M fr σ m outs x dsv J w:=by
 obtain ⟨o,ho,hx,σ'',a,b,c,d,e⟩:=h
 exact ⟨o,hm o ho,hx,σ'',a,b,h1.trans c h2.c d.c,h2.trans d,e⟩
theorem Qfy {Q Q':Ex->List Deferred->Env->World->Prop} (h:∀ x ds J w,Q x ds J w->Q' x ds J w):∀ (e:Exit) (a:Act) (w:World),QiQ n Q e a w->QiQ n Q' e a w:=by
 intro e a w hq
 cases e with
 | normal=>obtain ⟨ds,J,h1,h2⟩:=hq;exact ⟨ds,J,h1,h _ _ _ _ h2⟩
 | ret=>obtain ⟨ds,J,h1,h2⟩:=hq;exact ⟨ds,J,h1,h _ _ _ _ h2⟩
 | exit i=>obtain ⟨ds,J,h1,h2⟩:=hq;exact ⟨ds,J,h1,h _ _ _ _ h2⟩
 | _=>exact hq
include HC
theorem Qlp {cf yf:Nat->List AV->Mem->RL} (hcf:QfM P B cf) (hyf:Qg9 P B yf) (hcc:Qk8 cf) (hyc:Qk8 yf) {rd:Bool} {all:List Oper} (hrd:rd=rdv.isSome):∀ (l:List Oper) (k:Nat) {env:Tr AV} {ds:List DF} {m:Mem} {outs:List Out} {σ:Sig} {w:World} {J:Env} {dsv:List Deferred} {Q:Exit->Act->World->Prop},(∀ j,l[j]?=all[k+j]?)->ordA C n rd cf yf all l env ds m=some outs ->
  Pre B w0 M σ fr m w hi->(∀ o∈outs,o.m.c<=hi)->Qgm σ env J->RelD σ ds dsv->(∀ e a w,QiQ n (QiZ B w0 M fr σ m outs) e a w->Q e a w)->wpOpsIn (FR rdv) 0 P all.toArray Q ((List.range l.length).map (k+·)) (frd n dsv J) w
 | [],k,env,ds,m,outs,σ,w,J,dsv,Q,_,h,hp,hb,hE,hD,hQ=>by
  cases h
  exact hQ _ _ _ ⟨dsv,J,rfl,_,List.mem_cons_self,rfl,σ,hE,hD,SLe.refl _ _ _,MLe.refl _,hp.good⟩
 | o :: l,k,env,ds,m,outs,σ,w,J,dsv,Q,hl,h,hp,hb,hE,hD,hQ=>by
  have h:((wantA n all env o).bind fun q=>cond q
   (match o.op with
    | .next x false=>(nextA n env m x).bind (manyA fun v=>ordA C n rd cf yf all l (putO env o.dst v.1) ds v.2)
    | .defer { callee:=.value f,args,.. }=>cond rd none ((aev n env f).bind fun f=>(aevs n env args.toList).bind fun vs =>
      (match f with|.fn f caps=>ordA C n rd cf yf all l (putO env o.dst (.tu [])) (.fn f (vs++caps) :: ds) m|_=>none))
    | op=>(anyA C n env m cf yf op).bind (manyA fun v=>ordA C n rd cf yf all l (putO env o.dst v.1) ds v.2))
   (ordA C n rd cf yf all l (putO env o.dst (.tu [])) ds m))=some outs:=h
  have h0:all[k]?=some o:=by simpa using (hl 0).symm
  have hr:((List.range (o :: l).length).map (k+·))=k :: ((List.range l.length).map (k+1+·)):=by
   rw [List.length_cons,List.range_succ_eq_map]
   simp only [List.map_cons,List.map_map,Nat.add_zero]
   congr 1
   apply List.map_congr_left
   intro x _
   simp only [Function.comp]
   omega
  have hl':∀ j,l[j]?=all[k+1+j]?:=fun j=>by
   have:=hl (j+1)
   simp only [List.getElem?_cons_succ] at this
   rw [this];congr 1;omega
  rw [hr]
  simp only [wpOpsIn,List.getElem?_toArray,h0]
  obtain ⟨q,hq,h⟩:=bind_some h
  have hw:Region.wanted o (yielded all.toArray (frd n dsv J).tmps)=q:=Qsf hq hE
  cases q with
  | false =>
   simp only [hw,Bool.false_eq_true,if_false]
   rw [Qdy]
   exact ⟨fun _ _=>trivial,Qlp hcf hyf hcc hyc hrd l (k+1) hl' h hp hb (hE.put (.tu .nil)) hD hQ⟩
  | true =>
   simp only [hw,if_true]
   simp only [cond_true] at h
   have many:∀ (vs:List (AV × Mem)),manyA (fun v=>ordA C n rd cf yf all l (putO env o.dst v.1) ds v.2) vs=some outs->(∀ r∈vs,r.2.c<=hi->True)->opW P o.op o.type (ev n J) w (QoP B w0 M fr σ m vs) ->
     o.wpIn (FR rdv) 0 P (frd n dsv J) w (wpOpsIn (FR rdv) 0 P all.toArray Q ((List.range l.length).map (k+1+·))) Q:=by
    intro vs hv _ hop
    have:=Qfz (κ:=⟨rdv,dsv⟩) (o:=o) (Q:=Q) (K:=fun J w=>wpOpsIn (FR rdv) 0 P all.toArray Q ((List.range l.length).map (k+1+·)) (frd n dsv J) w)
     (QcV hop fun v w' hK=>by
      obtain ⟨r,hr,σ',h1,h2,h3,h4⟩:=hK
      obtain ⟨l',hl1,hl2⟩:=QeH hv r hr
      exact Qlp hcf hyf hcc hyc hrd l (k+1) hl' hl1 (hp.next h2 h3 h4) (fun o ho=>hb o (hl2 o ho)) ((hE.mono h2.le).put h1) (hD.mono h2.le) fun e a w hq=>hQ e a w (Qfy (fun x ds J w hq=>hq.step hl2 h2 h3) e a w hq))
    exact Oper.wpIn_mono (fun a w ⟨J,e,h⟩=>by subst e;exact h) this
   split at h
   ·rename_i x hop
    obtain ⟨vs,hvs,h⟩:=bind_some h
    refine many vs h (fun _ _ _=>trivial) ?_
    rw [hop]
    exact Qgr hvs hp (HE.of hE hp.gl _)
   ·rename_i f args ts hop
    obtain ⟨hrd',h⟩:=Qco h
    have hnone:rdv=none:=by
     rw [hrd'] at hrd
     cases rdv with
     | none=>rfl
     | some _=>cases hrd
    obtain ⟨fv,hfv,h⟩:=bind_some h
    obtain ⟨vs,hvs,h⟩:=bind_some h
    split at h
    ·rename_i ff caps _
     have rf:=QeP hE hp.gl hfv
     have ra:=Qfn (HE.of hE hp.gl args.toList) hvs
     generalize ef:ev n J f=F at rf
     cases rf with|@fn _ _ vcs hc=>?_
     have hmap:args.map (ev n J)=(args.toList.map (ev n J)).toArray:=by obtain ⟨l⟩:=args;simp
     have hsem:(o.semAt (FR rdv).round (frd n dsv J).eval).run P w = .ok (.defer { target:=.fn (.func ff) vcs.toArray,args:=(args.toList.map (ev n J)).toArray }) w:=by
      have hfr:(FR rdv).round=none:=hnone
      rw [hfr]
      show (execOp (frd n dsv J).eval o).run P w=_
      rw [Qi2,Qhe,hop]
      simp only [execOp,resolve,hmap,ef,Deferred.ofValue,Sem.run_bind,Sem.run_pure,Result.andThen_ok,List.append_toArray,List.nil_append]
     refine ⟨fun _ _=>trivial,?_⟩
     rw [hsem,Oper.uponIn_defer]
     have:({ frd n dsv J with defers:={ target:=.fn (.func ff) vcs.toArray,args:=(args.toList.map (ev n J)).toArray } :: (frd n dsv J).defers }:Act)=frd n ({ target:=.fn (.func ff) vcs.toArray,args:=(args.toList.map (ev n J)).toArray } :: dsv) J:=rfl
     rw [this,Qdy]
     exact Qlp hcf hyf hcc hyc hrd l (k+1) hl' h hp hb (hE.put (.tu .nil)) (.fn (ra.app hc) hD) hQ
    ·cases h
   ·obtain ⟨vs,hvs,h⟩:=bind_some h
    refine many vs h (fun _ _ _=>trivial) ?_
    refine QqP HC hcf hyf hvs hp (fun r hr=>?_) (HE.of hE hp.gl _)
    obtain ⟨l',hl1,hl2⟩:=QeH h r hr
    have hcm:=QhM hcc hyc hl1
    obtain ⟨x,hx⟩:=List.exists_mem_of_ne_nil _ hcm.1
    exact Nat.le_trans (hcm.2 x hx) (hb x (hl2 x hx))
end
end Go.Ce
namespace Go.Ce
open Go.RowKit Go.Vx
variable [Tok]
def rvS (n:Nat) (dsv:List Deferred) (J:Env):ResultVar->Sem Value
 | .tmp t=>pure ((frd n dsv J).tmps.getD t undef)
 | .cell a t=>do loadVar t (← asAddr ((frd n dsv J).tmps.getD a undef))
section
variable {C:Cfg} {P:Program} (HC:CfgOk C P) {n:Nat} {env:Tr AV} {m:Mem} {B:Nat} {w0:World} {M:Nat->Prop} [Inv w0 M] {σ:Sig} {fr:Nat->Res} {w:World} {hi:Nat} {rdv:Option Nat}
include HC
theorem QjE {J:Env} {r:ResultVar} {a:AV} (h:resultA C n env m r=some a) (hE:Qgm σ env J) (hG:Gl σ) (hg:Good B w0 M σ fr m.h.get w) :
  ∃ V,Rel σ a V/\∀ dsv,(rvS n dsv J r).run P w = .ok V w:=by
 have gd:∀ dsv t,(frd n dsv J).tmps.getD t undef=ev n J (.tmp t):=fun dsv t=>Qd2 n dsv J (.tmp t)
 unfold resultA at h
 cases r with
 | tmp t=>exact ⟨_,QeP hE hG h,fun dsv=>by unfold rvS;dsimp only;rw [gd];rfl⟩
 | cell x t =>
  dsimp only at h
  have H:HE n env (ev n J) σ [.tmp x]:=HE.of hE hG _
  have h':o_load C n env m t (.tmp x)=some a:=by
   unfold o_load
   revert h
   cases aev n env (.tmp x) with
   | none=>exact id
   | some v=>cases v<;>intro h<;>first|exact h|cases h
  obtain ⟨V,hV,hX⟩:=Qmu HC H hg h'
  refine ⟨V,hV,fun dsv=>?_⟩
  unfold rvS
  dsimp only
  rw [gd]
  cases hx:aev n env (.tmp x) with
  | none=>rw [hx] at h;cases h
  | some v =>
  rw [hx] at h
  have r1:=QeP hE hG hx
  generalize e1:ev n J (.tmp x)=V1 at r1
  cases v<;>first|(cases h;done)|skip
  cases r1
  have:=hX 0
  simp only [X,execOp,e1,Instr.loadAt,Instr.sureAddr,Sem.run_bind,Sem.run_pure,Result.andThen_ok] at this
  simp only [asAddr,Sem.run_bind,Sem.run_pure,Result.andThen_ok]
  revert this
  generalize (loadVar t _).run P w=q
  intro this
  cases q with
  | ok v w' =>
   simp only [Result.andThen_ok,Result.ok.injEq,Next.value.injEq] at this
   rw [this.1,this.2]
  | halt x w'=>cases this
theorem QhC {J:Env} {fn:Func} {a:AV} (h:resultsA C n env m fn.results.toList=some a) (hE:Qgm σ env J) (hG:Gl σ) (hg:Good B w0 M σ fr m.h.get w) :
  ∃ V,Rel σ a V/\∀ dsv,(results fn (frd n dsv J).tmps).run P w = .ok V w:=by
 have many:∀ (rs:List ResultVar) {l:List AV},(List.rec (motive:=fun _=>Option (List AV)) (some []) (fun r _ ih=>(resultA C n env m r).bind fun a=>ih.map fun l=>a :: l) rs:Option (List AV))=some l ->
   ∃ vs,RelL σ l vs/\∀ dsv,(rs.mapM (rvS n dsv J)).run P w = .ok vs w:=by
  intro rs
  induction rs with
  | nil=>intro l h;cases h;exact ⟨[],.nil,fun dsv=>by simp⟩
  | cons r rs ih =>
   intro l h
   obtain ⟨a,ha,h⟩:=bind_some h
   obtain ⟨l',hl',h⟩:=map_some h
   subst h
   obtain ⟨V,hV,hX⟩:=QjE HC ha hE hG hg
   obtain ⟨vs,hvs,hX2⟩:=ih hl'
   refine ⟨V :: vs,.cons hV hvs,fun dsv=>?_⟩
   rw [List.mapM_cons]
   simp only [Sem.run_bind,hX dsv,Result.andThen_ok,hX2 dsv,Sem.run_pure]
 obtain ⟨rs⟩:∃ rs,fn.results.toList=rs:=⟨_,rfl⟩
 unfold resultsA at h
 have hres:∀ dsv,(results fn (frd n dsv J).tmps).run P w=((fn.results.toList.mapM (rvS n dsv J)).run P w).andThen fun vs w'=>.ok (if h:vs.length=1 then vs[0] else .tuple vs.toArray) w':=by
  intro dsv
  have e1:results fn (frd n dsv J).tmps=(do
    let vs ← fn.results.mapM (rvS n dsv J)
    pure (if h:vs.size=1 then vs[0] else .tuple vs)):=rfl
  rw [e1,Array.mapM_eq_mapM_toList]
  simp only [Sem.run_bind,Sem.run_pure,map_eq_pure_bind]
  generalize ((fn.results.toList.mapM (rvS n dsv J)).run P w)=q
  cases q with
  | ok vs w'=>simp
  | halt _ _=>rfl
 cases hrs:fn.results.toList with
 | nil =>
  rw [hrs] at h
  obtain ⟨l,hl,h⟩:=map_some h
  subst h
  obtain ⟨vs,hvs,hX⟩:=many [] hl
  refine ⟨_,.tu hvs,fun dsv=>?_⟩
  rw [hres,hrs,hX dsv]
  cases hl;cases hvs
  rfl
 | cons r rs =>
  rw [hrs] at h
  cases rs with
  | nil =>
   obtain ⟨V,hV,hX⟩:=QjE HC h hE hG hg
   refine ⟨V,hV,fun dsv=>?_⟩
   rw [hres,hrs]
   simp only [List.mapM_cons,List.mapM_nil,Sem.run_bind,hX dsv,Result.andThen_ok,Sem.run_pure]
   rfl
  | cons r2 rs =>
   obtain ⟨l,hl,h⟩:=map_some h
   subst h
   obtain ⟨vs,hvs,hX⟩:=many (r :: r2 :: rs) hl
   refine ⟨_,.tu hvs,fun dsv=>?_⟩
   rw [hres,hrs,hX dsv]
   obtain ⟨a,_,hl⟩:=bind_some hl
   obtain ⟨l2,hl2,hl⟩:=map_some hl
   obtain ⟨a2,_,hl2⟩:=bind_some hl2
   obtain ⟨l3,_,hl2⟩:=map_some hl2
   have hlen:=hvs.len
   rw [← hl,← hl2] at hlen
   simp only [Result.andThen_ok]
   rw [dif_neg (by rw [hlen];simp)]
end
end Go.Ce
namespace Go.Ce
open Go.RowKit Go.Vx
variable [Tok]
theorem LeavesInM.mono' {P:Program} {fn:Func} {tmps:Array Value} {R R':Ending->World->Prop}:∀ {ds:List Deferred} {u:FrameMode} {w:World},LeavesInM Fence.wide 0 P fn tmps R ds u w->(∀ e w,R e w->R' e w)->LeavesInM Fence.wide 0 P fn tmps R' ds u w
 | [],u,w,h,hr=>by
  cases u with
  | run=>exact h.elim
  | returning=>obtain ⟨v,h1,h2⟩:=h;exact ⟨v,h1,hr _ _ h2⟩
  | panicking ch=>exact hr _ _ h
 | d :: ds,u,w,h,hr=>by
  obtain ⟨h1,h2⟩:=h
  refine ⟨h1,?_⟩
  rcases h2 with ⟨r,w',a,b,c⟩|⟨a,fv,cap,f,args,b,c,d',e⟩
  ·exact .inl ⟨r,w',a,b,LeavesInM.mono' c hr⟩
  ·refine .inr ⟨a,fv,cap,f,args,b,c,d',CallsDIn.mono e fun e' u' w' hq=>?_⟩
   cases e' with
   | returned v=>exact LeavesInM.mono' hq hr
   | panicked ch=>exact LeavesInM.mono' hq hr
   | outgrown=>exact hr _ _ hq
section
variable {C:Cfg} {P:Program} (HC:CfgOk C P) {n:Nat} {env:Tr AV} {m:Mem} {B:Nat} {w0:World} {M:Nat->Prop} [Inv w0 M] {σ:Sig} {fr:Nat->Res} {w:World} {hi:Nat} {rdv:Option Nat}
theorem QlG {args:List AV} {vs:List Value} (h:RelL σ args vs):Qgm σ (Tr.ofL args 0 .lf) (fun i=>vs.toArray.getD i undef):=by
 intro t v ht
 have:=Tr.ofL_get ht
 obtain ⟨V,h1,h2⟩:=h.at this
 have:vs.toArray.getD t undef=V:=by simp [h1]
 show Rel σ v (vs.toArray.getD t undef)
 rw [this];exact h2
def Qvm (B:Nat) (w0:World) (M:Nat->Prop) (fr:Nat->Res) (σ:Sig) (m:Mem) (r:AV × Mem):Ending->World->Prop :=
 fun e w'=>∃ v σ',e = .returned v/\Rel σ' r.1 v/\SLe m.c r.2.c σ σ'/\MLe m r.2/\Good B w0 M σ' fr r.2.h.get w'
include HC
theorem Qpn {ih:Run} (hr:Qjd P B ih) {f:Nat} {args:List AV} {m':Mem} {vs:List Value} (h:callD C ih f args m=some m') (hp:Pre B w0 M σ fr m w hi) (hb:m'.c<=hi) (hv:RelL σ args vs) (u:FrameMode) :
  CallsDIn Fence.wide 0 P f vs.toArray u w fun e u' w'=>u'=u/\∃ v,e = .returned v/\∃ σ',SLe m.c m'.c σ σ'/\MLe m m'/\Good B w0 M σ' fr m'.h.get w':=by
 unfold callD at h
 obtain ⟨fn,hfn,h⟩:=bind_some h
 obtain ⟨c,hc,h⟩:=bind_some h
 obtain ⟨hn,h⟩:=Qam h
 obtain ⟨outs,ho,h⟩:=bind_some h
 have hn:=QQ8 hn
 have hl:=hv.len
 have key:∃ o,outs=[o]/\(o.x = .nm∨o.x = .rt)/\o.ds=[]/\o.m=m'/\∃ a,resultsA C fn.ntmps o.env o.m fn.results.toList=some a:=by
  split at h
  ·obtain ⟨a,ha,h⟩:=map_some h;subst h;exact ⟨_,rfl,.inl rfl,rfl,rfl,a,ha⟩
  ·obtain ⟨a,ha,h⟩:=map_some h;subst h;exact ⟨_,rfl,.inr rfl,rfl,rfl,a,ha⟩
  ·cases h
 obtain ⟨o,rfl,hox,hod,rfl,a,ha⟩:=key
 refine callsDIn_of_wp (HC.fn f fn hfn) hc trivial ?_
 rw [Qh7 _ _ (by simp;omega)]
 have:=hr _ _ _ _ _ _ _ ho (J:=fun i=>vs.toArray.getD i undef) (dsv:=[]) (rdv:=none) hp (fun o ho=>by simp at ho;subst ho;exact hb) (QlG hv) .nil rfl
 refine wpIn_mono (F:=Fence.wide) this fun e a' w' hq=>?_
 have fin:∀ (dsv:List Deferred) (J:Env),a'=frd fn.ntmps dsv J->QiZ B w0 M fr σ m [o] o.x dsv J w'->bodyPost P fn (fun e w'=>∃ v,e = .returned v/\∃ σ',SLe m.c o.m.c σ σ'/\MLe m o.m/\Good B w0 M σ' fr o.m.h.get w') .ret a' w':=by
  rintro dsv J rfl ⟨o',ho',_,σ',h1,h2,h3,h4,h5⟩
  simp at ho';subst ho'
  rw [hod] at h2
  cases h2
  obtain ⟨V,hV,hX⟩:=QhC HC ha h1 (hp.gl.mono h3.le) h5
  exact ⟨rfl,V,hX [],V,rfl,σ',h3,h4,h5⟩
 cases e with
 | normal =>
  obtain ⟨dsv,J,h1,h2⟩:=hq
  have h3:=h2
  obtain ⟨o',ho',hx,_⟩:=h2
  simp at ho';subst ho'
  exact fin dsv J h1 (by rw [hx];exact h3)
 | ret =>
  obtain ⟨dsv,J,h1,h2⟩:=hq
  have h3:=h2
  obtain ⟨o',ho',hx,_⟩:=h2
  simp at ho';subst ho'
  exact fin dsv J h1 (by rw [hx];exact h3)
 | exit i =>
  obtain ⟨dsv,J,h1,o',ho',hx,_⟩:=hq
  simp at ho';subst ho'
  rcases hox with h|h<;>rw [h] at hx<;>cases hx
 | _=>exact hq.elim
omit HC in
theorem Qpv {ih:Run} (hr:QeJ ih) {f:Nat} {args:List AV} {m':Mem} (h:callD C ih f args m=some m'):m.c<=m'.c:=by
 unfold callD at h
 obtain ⟨fn,hfn,h⟩:=bind_some h
 obtain ⟨c,hc,h⟩:=bind_some h
 obtain ⟨hn,h⟩:=Qam h
 obtain ⟨outs,ho,h⟩:=bind_some h
 have hcm:=hr _ _ _ _ _ _ _ ho
 split at h
 ·obtain ⟨a,ha,h⟩:=map_some h;subst h;exact hcm.2 _ List.mem_cons_self
 ·obtain ⟨a,ha,h⟩:=map_some h;subst h;exact hcm.2 _ List.mem_cons_self
 ·cases h
omit HC in
theorem QfW {ih:Run} (hr:QeJ ih) {fn:Func} {env:Tr AV}:∀ {ds:List DF} {m:Mem} {r:AV × Mem},leaveA C ih fn env ds m=some r->m.c<=r.2.c
 | [],m,r,h=>by
  obtain ⟨a,_,h⟩:=map_some h
  subst h;exact Nat.le_refl _
 | .mk nm :: ds,m,r,h=>by
  have h:(match m.h.get nm with|some (.df true)=>cond (Nat.blt nm m.c) (leaveA C ih fn env ds (m.set nm (.df false))) none|_=>none)=some r:=h
  split at h
  ·obtain ⟨_,h⟩:=Qam h
   exact QfW (m:=m.set nm (.df false)) hr h
  ·cases h
 | .fn f args :: ds,m,r,h=>by
  have h:(callD C ih f args m).bind (leaveA C ih fn env ds)=some r:=h
  obtain ⟨m',h1,h⟩:=bind_some h
  exact Nat.le_trans (Qpv hr h1) (QfW hr h)
theorem Qh9 {ih:Run} (hr:Qjd P B ih) (hcm:QeJ ih) {fn:Func}:∀ {ds:List DF} {m:Mem} {r:AV × Mem} {σ:Sig} {w:World} {J:Env} {dsv:List Deferred},leaveA C ih fn env ds m=some r->Pre B w0 M σ fr m w hi->r.2.c<=hi->Qgm σ env J->RelD σ ds dsv->∀ d0:List Deferred,
  LeavesInM Fence.wide 0 P fn (frd fn.ntmps d0 J).tmps (Qvm B w0 M fr σ m r) dsv .returning w
 | [],m,r,σ,w,J,dsv,h,hp,hb,hE,hD,d0=>by
  obtain ⟨a,ha,h⟩:=map_some h
  subst h
  cases hD
  obtain ⟨V,hV,hX⟩:=QhC HC ha hE hp.gl hp.good
  exact ⟨V,hX d0,V,σ,rfl,hV,SLe.refl _ _ _,MLe.refl _,hp.good⟩
 | .mk nm :: ds,m,r,σ,w,J,dsv,h,hp,hb,hE,hD,d0=>by
  have h:(match m.h.get nm with|some (.df true)=>cond (Nat.blt nm m.c) (leaveA C ih fn env ds (m.set nm (.df false))) none|_=>none)=some r:=h
  cases hD with|@mk _ b ee _ dsv' hσ ht=>?_
  split at h
  ·rename_i hb2
   obtain ⟨hlt,h⟩:=Qam h
   have hlt:=QhP hlt
   obtain ⟨b',e',o,h1,h2,h3⟩:=hp.good.block hb2 rfl
   rw [hσ] at h1;cases h1
   have h3:o = .deferred (some []):=h3
   subst h3
   have hs:Good B w0 M σ fr (m.set nm (.df false)).h.get (World.putObj w b (.deferred none)):=by
    show Good B w0 M _ fr (m.h.put nm (some _)).get _
    rw [QbO]
    exact hp.good.put hb2 rfl rfl hσ (o':=.deferred none) rfl (by simp [World.putObj]) rfl rfl rfl (fun c hc=>QjA hc) (Qjg h2)
   have hml:MLe m (m.set nm (.df false)):=MLe.set _ hlt
   have hsl:SLe m.c (m.set nm (.df false)).c σ σ:=SLe.refl _ _ _
   have hrest:=Qh9 hr hcm h (hp.next hsl hml hs) hb hE ht d0
   refine ⟨by simp,.inl ⟨b,World.putObj w b (.deferred none),rfl,?_,?_⟩⟩
   ·have hgo:(getObj b).run P w = .ok (.deferred (some [])) w:=QdQ h2 (by simp)
    simp only [Instr.takeDeferred,Sem.run_bind,hgo,Result.andThen_ok,QgZ h2 (by simp),Sem.run_pure]
   ·have:Qvm B w0 M fr σ (m.set nm (.df false)) r=fun e w'=>Qvm B w0 M fr σ (m.set nm (.df false)) r e w':=rfl
    refine LeavesInM.mono' hrest fun e w' hq=>?_
    obtain ⟨v,σ',q1,q2,q3,q4,q5⟩:=hq
    exact ⟨v,σ',q1,q2,q3,hml.trans q4,q5⟩
  ·cases h
 | .fn f args :: ds,m,r,σ,w,J,dsv,h,hp,hb,hE,hD,d0=>by
  have h:(callD C ih f args m).bind (leaveA C ih fn env ds)=some r:=h
  obtain ⟨m',h1,h⟩:=bind_some h
  cases hD with|@fn _ _ vs cs _ dsv' hv ht=>?_
  have hcl:=QfW hcm h
  have hD:=Qpn HC hr h1 hp (Nat.le_trans hcl hb) hv .returning
  have hen:∃ fn' c',C.fn f=some fn'/\fn'.body=some c':=by
   unfold callD at h1
   obtain ⟨fn',hfn,h1⟩:=bind_some h1
   obtain ⟨c',hc,h1⟩:=bind_some h1
   exact ⟨fn',c',hfn,hc⟩
  obtain ⟨fn',c',hfn',hc'⟩:=hen
  have hinv:(invoke (.fn (.func f) cs.toArray) vs.toArray).run P w = .ok (.enter f (vs++cs).toArray) w:=by
   have:=HC.en f fn' c' hfn' hc' (vs++cs).toArray w
   simp only [invoke,List.append_toArray]
   exact this
  refine ⟨by simp,.inr ⟨fun h=>by simp [Fence.wide] at h,.func f,cs.toArray,f,_,rfl,hinv,fun _ _=>trivial,?_⟩⟩
  refine CallsDIn.mono hD ?_
  rintro e u' w' ⟨rfl,v,rfl,σ',q1,q2,q3⟩
  show LeavesInM Fence.wide 0 P fn _ _ dsv' (settle .returning) w'
  have hrest:=Qh9 hr hcm h (hp.next q1 q2 q3) hb (hE.mono q1.le) (ht.mono q1.le) d0
  refine LeavesInM.mono' hrest fun e w' hq=>?_
  obtain ⟨v,σ'',p1,p2,p3,p4,p5⟩:=hq
  exact ⟨v,σ'',p1,p2,q1.trans p3 q2.c p4.c,q2.trans p4,p5⟩
end
end Go.Ce
namespace Go.Ce
open Go.RowKit Go.Vx
variable [Tok]
theorem QmV {a b:AV} (h:beqS a b=some true):a=b:=by
 unfold beqS at h
 split at h
 ·obtain ⟨h1,h2⟩:=Qam h
  have:=Qg1 (QdD h1)
  subst this
  rw [Option.some.injEq,QdA,decide_eq_true_eq] at h2
  rw [h2]
 ·rw [Option.some.injEq,beq_iff_eq] at h;rw [h]
 ·rw [Option.some.injEq,Qey,decide_eq_true_eq] at h;rw [h]
 ·cases h
theorem Qn8:∀ {l m:List AV},beqC l m=some true->l=m
 | [],[],_=>rfl
 | [],_ :: _,h=>by cases h
 | _ :: _,[],h=>by cases h
 | a :: l,b :: m,h=>by
  have h:(beqS a b).bind (fun x=>(beqC l m).map fun y=>x&&y)=some true:=h
  obtain ⟨x,hx,h⟩:=bind_some h
  obtain ⟨y,hy,h⟩:=map_some h
  rw [Bool.and_eq_true] at h
  obtain ⟨rfl,rfl⟩:=h
  rw [QmV hx,Qn8 hy]
theorem Qf4 (l:List (AV × Mem)) (c:Nat):c<=l.foldl (fun c q=>Nat.max c q.2.c) c/\∀ q∈l,q.2.c<=l.foldl (fun c q=>Nat.max c q.2.c) c:=by
 induction l generalizing c with
 | nil=>exact ⟨Nat.le_refl _,by simp⟩
 | cons a l ih =>
  have h:=ih (Nat.max c a.2.c)
  refine ⟨Nat.le_trans (Nat.le_max_left _ _) h.1,fun q hq=>?_⟩
  rcases List.mem_cons.1 hq with rfl|hq
  ·exact Nat.le_trans (Nat.le_max_right _ _) h.1
  ·exact h.2 q hq
theorem Qqy {c:Nat} {l:List Nat} (h:above c l=true) {x:Nat} (hx:x<c):x ∉ l:=fun hm=>by
 have:=List.all_eq_true.1 h x hm
 have:=QQ8 this
 omega
section
variable {C:Cfg} {P:Program} (HC:CfgOk C P) {n:Nat} {env:Tr AV} {m:Mem} {B:Nat} {w0:World} {M:Nat->Prop} [Inv w0 M] {σ σ':Sig} {fr:Nat->Res} {w w':World} {hi:Nat} {rdv:Option Nat}
theorem Good.drop (hp:Pre B w0 M σ fr m w hi) {q:Mem} (hq:q.c<=hi) (hm:MLe ⟨m.h,m.c,[]⟩ q) (hd:above m.c q.d=true) (hg:Good B w0 M σ' fr q.h.get w'):Good B w0 M σ' fr m.h.get w':=by
 refine ⟨Own.imp hg.own fun k R' hk=>?_,hp.good.bd⟩
 obtain ⟨hl,e⟩:=Qg3 hk
 refine ⟨_,Qem _ hl,fun S hS=>?_⟩
 subst e
 by_cases h1:k<m.c
 ·have:=hm.old k h1 (Qqy hd h1)
  unfold Qeq at hS ⊢
  rw [this] at hS
  exact hS
 ·by_cases h2:k<hi
  ·obtain ⟨_,f2,f3⟩:=hp.fresh k (by omega) h2
   unfold Qeq
   rw [f3]
   dsimp only
   rw [f2]
   trivial
  ·have:=hm.up k (by omega)
   unfold Qeq at hS ⊢
   rw [this] at hS
   exact hS
theorem Good.drop1 (hp:Pre B w0 M σ fr m w hi) {q:Mem} (hq:q.c<=hi) (hm:MLe ⟨m.h,m.c,[]⟩ q) (hd:above m.c q.d=true) (hg:Good B w0 M σ' fr q.h.get w') {x:Nat} {blk:AB} (hx:q.h.get x=some blk):Good B w0 M σ' fr (m.h.put x (some blk)).get w':=by
 rw [QbO]
 refine ⟨Own.imp hg.own fun k R' hk=>?_,fun y blk' hy=>?_⟩
 ·obtain ⟨hl,e⟩:=Qg3 hk
  refine ⟨_,Qem _ hl,fun S hS=>?_⟩
  subst e
  rw [QlB]
  by_cases hkx:k=x
  ·subst hkx
   rw [if_pos rfl]
   unfold Qeq at hS
   rw [hx] at hS
   exact hS
  ·rw [if_neg hkx]
   by_cases h1:k<m.c
   ·have:=hm.old k h1 (Qqy hd h1)
    unfold Qeq at hS ⊢
    rw [this] at hS
    exact hS
   ·by_cases h2:k<hi
    ·obtain ⟨_,f2,f3⟩:=hp.fresh k (by omega) h2
     unfold Qeq
     rw [f3]
     dsimp only
     rw [f2]
     trivial
    ·have:=hm.up k (by omega)
     unfold Qeq at hS ⊢
     rw [this] at hS
     exact hS
 ·unfold Hp.put at hy
  split at hy
  ·rename_i e;subst e;exact hg.bd _ _ hx
  ·exact hp.good.bd y blk' hy
theorem QkY {r:AV × Mem} (hm:MLe ⟨m.h,m.c,[]⟩ r.2):MLe m ⟨r.2.h,r.2.c,r.2.d.filter (fun x=>Nat.blt x m.c)++m.d⟩ :=
 ⟨hm.c,fun x hx=>List.mem_append.2 (.inr hx),hm.up,fun x hx hd=>hm.old x hx fun hmem=>hd (List.mem_append.2 (.inl (List.mem_filter.2 ⟨hmem,by rw [Qbg];simpa using hx⟩)))⟩
theorem QnD {r0 o:AV × Mem} {l:List (AV × Mem)} (h:mergeF m r0 l=some o) {r:AV × Mem} (hr:r∈l) :
  r.2.c<=o.2.c/\∀ {v:Value},Pre B w0 M σ fr m w hi->r.2.c<=hi->SLe m.c r.2.c σ σ'->MLe ⟨m.h,m.c,[]⟩ r.2->Rel σ' r.1 v->Good B w0 M σ' fr r.2.h.get w'->SLe m.c o.2.c σ σ'/\MLe m o.2/\Rel σ' o.1 v/\Good B w0 M σ' fr o.2.h.get w':=by
 unfold mergeF at h
 obtain ⟨hab,h⟩:=Qam h
 have hab:=List.all_eq_true.1 hab r hr
 have scalar:∀ v0,cond (l.all fun q=>(match beqS v0 q.1 with|some b=>b|none=>false)) (some (v0,(⟨m.h,l.foldl (fun c q=>Nat.max c q.2.c) r0.2.c,m.d⟩:Mem))) none=some o ->
   r.2.c<=o.2.c/\∀ {v:Value},Pre B w0 M σ fr m w hi->r.2.c<=hi->SLe m.c r.2.c σ σ'->MLe ⟨m.h,m.c,[]⟩ r.2->Rel σ' r.1 v->Good B w0 M σ' fr r.2.h.get w'->SLe m.c o.2.c σ σ'/\MLe m o.2/\Rel σ' o.1 v/\Good B w0 M σ' fr o.2.h.get w':=by
  intro v0 h
  obtain ⟨hall,h⟩:=Qam h
  cases h
  have hq:=List.all_eq_true.1 hall r hr
  have hv:v0=r.1:=by
   cases hb:beqS v0 r.1 with
   | none=>rw [hb] at hq;cases hq
   | some b=>rw [hb] at hq;cases b with
    | true=>exact QmV hb
    | false=>cases hq
  have hmax:=(Qf4 l r0.2.c).2 r hr
  refine ⟨hmax,fun hp h1 h2 h3 h4 h5=>⟨⟨h2.le,fun x hx hc=>h2.out x hx (by have hc:x<m.c∨l.foldl (fun c q=>Nat.max c q.2.c) r0.2.c<=x:=hc;omega)⟩,⟨Nat.le_trans h3.c hmax,fun _ h=>h,fun _ _=>rfl,fun _ _ _=>rfl⟩,by rw [hv];exact h4,show Good B w0 M σ' fr m.h.get w' from Good.drop hp h1 h3 hab h5⟩⟩
 split at h
 ·rename_i nm off len cap ex hv0
  split at h
  ·rename_i cs T k ex' hb0
   obtain ⟨hc,h⟩:=Qam h
   cases h
   simp only [Bool.and_eq_true] at hc
   obtain ⟨⟨c1,c2⟩,c3⟩:=hc
   have c1:=QQ8 c1
   have c2:=QhP c2
   have hq:=List.all_eq_true.1 c3 r hr
   have hmax:=(Qf4 l r0.2.c)
   have key:r.1=r0.1/\r.2.h.get nm=some (.row cs T k ex'):=by
    split at hq
    ·rename_i nm2 off2 len2 cap2 ex2 hv2
     simp only [Bool.and_eq_true] at hq
     obtain ⟨⟨⟨⟨⟨q1,q2⟩,q3⟩,q4⟩,q5⟩,q6⟩:=hq
     have q1:=QdD q1;have q2:=QdD q2;have q3:=QdD q3;have q4:=QdD q4
     rw [beq_iff_eq] at q5
     subst q1;subst q2;subst q3;subst q4;subst q5
     refine ⟨hv2.trans hv0.symm,?_⟩
     split at q6
     ·rename_i cs2 T2 k2 ex2' hb2
      simp only [Bool.and_eq_true] at q6
      obtain ⟨⟨⟨⟨p1,p2⟩,p3⟩,p4⟩,p5⟩:=q6
      have p1:=QdD p1;have p2:=QdD p2
      rw [beq_iff_eq] at p3
      subst p1;subst p2;subst p3
      have hcs:cs=cs2:=by
       cases hb:beqC cs cs2 with
       | none=>rw [hb] at p4;cases p4
       | some b=>rw [hb] at p4;cases b with
        | true=>exact Qn8 hb
        | false=>cases p4
      rw [hb2,hcs]
     ·cases q6
    ·cases hq
   obtain ⟨k1,k2⟩:=key
   refine ⟨hmax.2 r hr,fun hp h1 h2 h3 h4 h5=>⟨⟨h2.le,fun x hx hc=>h2.out x hx (by have:=hmax.2 r hr;have hc:x<m.c∨l.foldl (fun c q=>Nat.max c q.2.c) r0.2.c<=x:=hc;omega)⟩,⟨Nat.le_trans h3.c (hmax.2 r hr),fun _ h=>h,fun x hx=>?_,fun x hx _=>?_⟩,by rw [← k1];exact h4,show Good B w0 M σ' fr (m.h.put nm (some _)).get w' from Good.drop1 hp h1 h3 hab h5 k2⟩⟩
   ·show (m.h.put nm (some _)).get x=_
    rw [Tr.get_put,if_neg]
    have:=hmax.1
    have hx:l.foldl (fun c q=>Nat.max c q.2.c) r0.2.c<=x:=hx
    omega
   ·show (m.h.put nm (some _)).get x=_
    rw [Tr.get_put,if_neg (by omega)]
  ·cases h
 ·exact scalar _ h
theorem QkM {l:List (AV × Mem)} {r:AV × Mem} (hr:r∈l):∃ o∈mergeA m l,r.2.c<=o.2.c/\∀ {v:Value},Pre B w0 M σ fr m w hi->r.2.c<=hi->SLe m.c r.2.c σ σ'->MLe ⟨m.h,m.c,[]⟩ r.2->Rel σ' r.1 v->Good B w0 M σ' fr r.2.h.get w'->SLe m.c o.2.c σ σ'/\MLe m o.2/\Rel σ' o.1 v/\Good B w0 M σ' fr o.2.h.get w':=by
 have plain:(r.1,(⟨r.2.h,r.2.c,r.2.d.filter (fun x=>Nat.blt x m.c)++m.d⟩:Mem))∈(l.map fun r=>(r.1,(⟨r.2.h,r.2.c,r.2.d.filter (fun x=>Nat.blt x m.c)++m.d⟩:Mem))):=List.mem_map.2 ⟨r,hr,rfl⟩
 unfold mergeA
 split
 ·rename_i r0 r1 l'
  cases hm:mergeF m r0 (r0 :: r1 :: l') with
  | some o=>exact ⟨o,by simp,QnD hm hr⟩
  | none=>exact ⟨_,plain,Nat.le_refl _,fun hp h1 h2 h3 h4 h5=>⟨h2,QkY h3,h4,h5⟩⟩
 ·exact ⟨_,plain,Nat.le_refl _,fun hp h1 h2 h3 h4 h5=>⟨h2,QkY h3,h4,h5⟩⟩
end
end Go.Ce
namespace Go.Ce
open Go.RowKit Go.Vx
variable [Tok]
section
variable {C:Cfg} {P:Program} (HC:CfgOk C P) {n:Nat} {env:Tr AV} {m:Mem} {B:Nat} {w0:World} {M:Nat->Prop} [Inv w0 M] {σ σ':Sig} {fr:Nat->Res} {w w':World} {hi:Nat} {rdv:Option Nat}
theorem Qe9 {k:Out->R1}:∀ {outs:List Out} {rs:List (AV × Mem)},(List.rec (motive:=fun _=>Option (List (AV × Mem))) (some []) (fun o _ go=>(k o).bind fun a=>go.map fun l=>a :: l) outs)=some rs->(∀ o∈outs,∃ r∈rs,k o=some r)/\(∀ r∈rs,∃ o∈outs,k o=some r)/\rs.length=outs.length
 | [],rs,h=>by cases h;exact ⟨by simp,by simp,rfl⟩
 | o :: outs,rs,h=>by
  obtain ⟨a,ha,h⟩:=bind_some h
  obtain ⟨l,hl,h⟩:=map_some h
  subst h
  obtain ⟨h1,h2,h3⟩:=Qe9 hl
  refine ⟨fun x hx=>?_,fun r hr=>?_,by simp [h3]⟩
  ·rcases List.mem_cons.1 hx with rfl|hx
   ·exact ⟨a,by simp,ha⟩
   ·obtain ⟨r,hr,hk⟩:=h1 x hx;exact ⟨r,by simp [hr],hk⟩
  ·rcases List.mem_cons.1 hr with rfl|hr
   ·exact ⟨o,by simp,ha⟩
   ·obtain ⟨x,hx,hk⟩:=h2 r hr;exact ⟨x,by simp [hx],hk⟩
theorem QiT {ih:Run} (hr:QeJ ih) {fn:Func} {o:Out} {r:AV × Mem} (h:leaveO C ih fn o=some r):o.m.c<=r.2.c:=by
 unfold leaveO at h
 split at h
 ·cases h
 ·exact QfW hr h
theorem Qo2 {l:List (AV × Mem)} (h:l≠[]):mergeA m l≠[]:=by
 unfold mergeA
 split
 ·split
  ·simp
  ·simp
 ·simpa using h
theorem Qph {r0 o:AV × Mem} {l:List (AV × Mem)} (h:mergeF m r0 l=some o):r0.2.c<=o.2.c:=by
 unfold mergeF at h
 obtain ⟨_,h⟩:=Qam h
 split at h
 ·split at h
  ·obtain ⟨_,h⟩:=Qam h
   cases h
   exact (Qf4 l r0.2.c).1
  ·cases h
 ·obtain ⟨_,h⟩:=Qam h
  cases h
  exact (Qf4 l r0.2.c).1
theorem Qso {l:List (AV × Mem)} {k:Nat} (h:∀ r∈l,k<=r.2.c):∀ o∈mergeA m l,k<=o.2.c:=by
 intro o ho
 have plain:∀ o∈(l.map fun r=>(r.1,(⟨r.2.h,r.2.c,r.2.d.filter (fun x=>Nat.blt x m.c)++m.d⟩:Mem))),k<=o.2.c:=fun o ho=>by
  obtain ⟨r,hr,rfl⟩:=List.mem_map.1 ho
  exact h r hr
 unfold mergeA at ho
 split at ho
 ·rename_i r0 r1 l'
  split at ho
  ·rename_i r hm
   simp at ho;subst ho
   exact Nat.le_trans (h r0 (by simp)) (Qph hm)
  ·exact plain o ho
 ·exact plain o ho
theorem QiD {ih:Run} (hr:QeJ ih):Qk8 (callA C ih):=by
 intro f args m outs h
 unfold callA at h
 obtain ⟨fn,_,h⟩:=bind_some h
 split at h
 ·obtain ⟨r,hx,h⟩:=map_some h
  subst h
  unfold extA at hx
  split at hx
  ·split at hx
   ·obtain ⟨_,hx⟩:=Qam hx
    cases hx
    exact ⟨by simp,fun o ho=>by simp at ho;subst ho;exact Nat.le_succ _⟩
   ·cases hx
  ·cases hx
 ·obtain ⟨_,h⟩:=Qam h
  obtain ⟨os,hos,h⟩:=bind_some h
  obtain ⟨rs,hrs,h⟩:=map_some h
  subst h
  obtain ⟨h1,h2,h3⟩:=Qe9 hrs
  have hcm:=hr _ _ _ _ _ _ _ hos
  refine ⟨Qo2 fun e=>hcm.1 (by subst e;exact List.eq_nil_of_length_eq_zero (by simpa using h3.symm)),Qso fun r hr'=>?_⟩
  obtain ⟨o,ho,hk⟩:=h2 r hr'
  exact Nat.le_trans (hcm.2 o ho) (QiT hr hk)
theorem Qgc {ih:Run} (hr:QeJ ih):Qk8 (yieldA ih):=by
 intro f args m outs h
 unfold yieldA at h
 split at h
 ·obtain ⟨_,h⟩:=Qam h
  obtain ⟨o1,ho1,h⟩:=bind_some h
  have c1:=hr _ _ _ _ _ _ _ ho1
  split at h
  ·split at h
   ·obtain ⟨_,h⟩:=Qam h
    obtain ⟨o2,ho2,h⟩:=bind_some h
    have c2:=hr _ _ _ _ _ _ _ ho2
    split at h
    ·split at h
     ·obtain ⟨_,h⟩:=Qam h
      cases h
      exact ⟨by simp,fun o ho=>by simp at ho;subst ho;exact Nat.le_trans (c1.2 _ List.mem_cons_self) (c2.2 _ List.mem_cons_self)⟩
     ·cases h
    ·cases h
   ·cases h
  ·cases h
 ·cases h
include HC
theorem Qj4 {ih:Run} (hr:Qjd P B ih) (hcm:QeJ ih):QfM P B (callA C ih):=by
 intro f args m outs h w0 M _ σ fr w hi vs hp hb hv
 have hcmc:=QiD hcm _ _ _ _ h
 unfold callA at h
 obtain ⟨fn,hfn,h⟩:=bind_some h
 cases hbody:fn.body with
 | none =>
  rw [hbody] at h
  obtain ⟨r,hx,h⟩:=map_some h
  subst h
  unfold extA at hx
  split at hx
  ·rename_i t nm
   split at hx
   ·rename_i es clock hbk
    obtain ⟨hnm,hx⟩:=Qam hx
    cases hx
    rw [beq_iff_eq] at hnm
    cases hv with|@cons _ V _ VS h1 h2=>?_
    cases h2
    cases h1 with|@fc _ _ V2 h3=>?_
    cases h3 with|@m _ b ee hσ=>?_
    obtain ⟨b',e',ves,q1,q2,q3⟩:=hp.good.mp hbk
    rw [hσ] at q1;cases q1
    have hrun:=fun t=>HC.ext f fn hfn hbody hnm t b ves.toArray clock w q2
    show QfH P _ ((callFunc f #[.iface _ (.map (some b))]).run P w)
    rw [hrun]
    have hlt:m.c<hi:=by have:=hb _ List.mem_cons_self;exact this
    obtain ⟨f1,f2,f3⟩:=hp.fresh m.c (Nat.le_refl _) hlt
    refine ⟨_,List.mem_cons_self,σ.up m.c w.heap.size 0,.fc (.m Sig.up_self),SLe.new f1 (Nat.le_refl _),MLe.new _ _,?_⟩
    show Good B w0 M _ fr (m.h.put m.c (some _)).get _
    rw [QbO]
    exact hp.good.new (Nat.lt_of_lt_of_le hlt hp.hb) f1 f3 f2 rfl ⟨ves,q3.mono (Sig.le_up f1),rfl⟩
   ·cases hx
  ·cases hx
 | some c =>
  rw [hbody] at h
  obtain ⟨hn,h⟩:=Qam h
  obtain ⟨os,hos,h⟩:=bind_some h
  obtain ⟨rs,hrs,h⟩:=map_some h
  subst h
  have hn:=QQ8 hn
  have hl:=hv.len
  rw [HC.en f fn c hfn hbody vs.toArray w]
  show Calls P f vs.toArray w _
  refine (callsIn_wide (n:=0)).1 (callsIn_of_wp_marks (HC.fn f fn hfn) hbody trivial ?_ rfl)
  rw [Qh7 _ _ (by simp;omega)]
  obtain ⟨h1,h2,h3⟩:=Qe9 hrs
  have bound:∀ r∈rs,r.2.c<=hi:=fun r hr'=>by
   obtain ⟨o,ho,hle,_⟩:=QkM (m:=m) (B:=B) (w0:=w0) (M:=M) (σ:=σ) (σ':=σ) (fr:=fr) (w:=w) (w':=w) (hi:=hi) hr'
   exact Nat.le_trans hle (hb o ho)
  have hp0:Pre B w0 M σ fr ⟨m.h,m.c,[]⟩ w hi:=⟨hp.gl,hp.good,hp.fresh,hp.hb⟩
  have hrun:=hr _ _ _ _ _ _ _ hos (J:=fun i=>vs.toArray.getD i undef) (dsv:=[]) (rdv:=none) hp0 (fun o ho=>by
   obtain ⟨r,hr',hk⟩:=h1 o ho
   exact Nat.le_trans (QiT hcm hk) (bound r hr')) (QlG hv) .nil rfl
  refine wpIn_mono (F:=Fence.wide) hrun fun e a' w' hq=>?_
  have fin:∀ (x:Ex) (dsv:List Deferred) (J:Env),(x = .nm∨x = .rt)->a'=frd fn.ntmps dsv J->QiZ B w0 M fr σ ⟨m.h,m.c,[]⟩ os x dsv J w'->LeavesInM Fence.wide 0 P fn a'.tmps (fun e w''=>∃ v,e = .returned v/\QoP B w0 M fr σ m (mergeA m rs) v w'') a'.defers .returning w':=by
   rintro x dsv J hx rfl ⟨o,ho,hox,σ',q1,q2,q3,q4,q5⟩
   obtain ⟨r,hr',hk⟩:=h1 o ho
   have hk':leaveA C ih fn o.env o.ds o.m=some r:=by
    unfold leaveO at hk
    rcases hx with rfl|rfl<;>rw [hox] at hk<;>exact hk
   have hpo:Pre B w0 M σ' fr o.m w' hi:=hp0.next q3 q4 q5
   have:=Qh9 HC hr hcm hk' hpo (bound r hr') q1 q2 dsv
   refine LeavesInM.mono' this fun e w'' hq=>?_
   obtain ⟨v,σ'',p1,p2,p3,p4,p5⟩:=hq
   obtain ⟨o2,ho2,_,hm⟩:=QkM (m:=m) (B:=B) (w0:=w0) (M:=M) (σ:=σ) (σ':=σ'') (fr:=fr) (w:=w) (w':=w'') (hi:=hi) hr'
   obtain ⟨t1,t2,t3,t4⟩:=hm hp (bound r hr') (q3.trans p3 q4.c p4.c) (q4.trans p4) p2 p5
   exact ⟨v,p1,o2,ho2,σ'',t3,t1,t2,t4⟩
  cases e with
  | normal=>obtain ⟨dsv,J,h1,h2⟩:=hq;exact fin .nm dsv J (.inl rfl) h1 h2
  | ret=>obtain ⟨dsv,J,h1,h2⟩:=hq;exact fin .rt dsv J (.inr rfl) h1 h2
  | exit i =>
   obtain ⟨dsv,J,_,o,ho,hox,_⟩:=hq
   obtain ⟨r,_,hk⟩:=h1 o ho
   unfold leaveO at hk
   rw [hox] at hk
   cases hk
  | _=>exact hq.elim
end
end Go.Ce
namespace Go.Ce
open Go.RowKit Go.Vx
variable [Tok]
section
variable {C:Cfg} {P:Program} (HC:CfgOk C P) {n:Nat} {env:Tr AV} {m:Mem} {B:Nat} {w0:World} {M:Nat->Prop} [Inv w0 M] {σ σ':Sig} {fr:Nat->Res} {w w':World} {hi:Nat} {rdv:Option Nat}
theorem Good.lp {h:Hp} (hg:Good B w0 M σ fr h w) {x:Nat} {n:Nat} {env:Tr AV} {p:Nat} {assign body:Code} {d:Nat} {st:LoopState} (hx:h x=some (.lp n env p assign body d st)) :
  ∃ b e fn J db de,σ x=some (b,e)/\Qgm σ env J/\σ d=some (db,de)/\w.heap[b]?=some (.loop { QgX fn n J p assign body db with state:=st }):=by
 obtain ⟨b,e,o,h1,h2,fn,J,db,de,h3,h4,h5⟩:=hg.block hx rfl
 subst h5
 exact ⟨b,e,fn,J,db,de,h1,h3,h4,h2⟩
theorem Good.lpSet (hg:Good B w0 M σ fr m.h.get w) {x b e:Nat} {fn:FuncId} {J:Env} {n:Nat} {env:Tr AV} {p:Nat} {assign body:Code} {d db de:Nat} {st st':LoopState} (hx:m.h.get x=some (.lp n env p assign body d st)) (hσ:σ x=some (b,e)) (hE:Qgm σ env J) (hd:σ d=some (db,de))
  (hh:w.heap[b]?=some (.loop { QgX fn n J p assign body db with state:=st })):Good B w0 M σ fr (m.set x (.lp n env p assign body d st')).h.get (w.putObj b (.loop { QgX fn n J p assign body db with state:=st' })):=by
 show Good B w0 M _ fr (m.h.put x (some _)).get _
 rw [QbO]
 exact hg.put hx rfl rfl hσ (o':=.loop { QgX fn n J p assign body db with state:=st' }) ⟨fn,J,db,de,hE,hd,rfl⟩ (by simp) rfl rfl rfl (fun c hc=>World.putObj_heap_other hc) (World.putObj_heap_same (Array.getElem?_eq_some_iff.1 hh).1)
theorem QkK {ih:Run} (hr:Qjd P B ih) (hcm:QeJ ih):Qg9 P B (yieldA ih):=by
 intro nm args m outs h w0 M _ σ fr w hi b ee vs hp hb hv hσ
 unfold yieldA at h
 split at h
 ·rename_i n env p assign body d a hnm
  obtain ⟨hlt,h⟩:=Qam h
  have hlt:=QhP hlt
  obtain ⟨o1,ho1,h⟩:=bind_some h
  split at h
  ·rename_i env1 m1
   split at h
   ·rename_i n1 env1' p1 assign1 QnL d1 hnm1
    obtain ⟨hlt1,h⟩:=Qam h
    have hlt1:=QhP hlt1
    obtain ⟨o2,ho2,h⟩:=bind_some h
    split at h
    ·rename_i env2 m2
     split at h
     ·rename_i n2 env2' p2 assign2 Qp5 d2 hnm2
      obtain ⟨hlt2,h⟩:=Qam h
      have hlt2:=QhP hlt2
      cases h
      have c2:=hcm _ _ _ _ _ _ _ ho2
      have hb2:m2.c<=hi:=hb _ List.mem_cons_self
      have hb1:m1.c<=hi:=Nat.le_trans (c2.2 _ List.mem_cons_self) hb2
      cases hv with|@cons _ V _ VS ha hn=>?_
      cases hn
      obtain ⟨b',e',fn,J,db,de,q1,q2,q3,q4⟩:=hp.good.lp hnm
      rw [hσ] at q1;cases q1
      have hy:=run_yield (P:=P) (args:=#[V]) q4 rfl
      rw [hy]
      show RoundIn Fence.wide 0 P b _ _ _ _ w _
      refine roundIn_of_wpIn trivial ?_
      have e1:({ tmps:=((#[p].zip #[V]).foldl (fun (tmps:Array Value) (y:Nat × Value)=>tmps.setIfInBounds y.1 y.2) (Array.ofFn (n:=n) fun i=>J i)),defers:=[] }:Act)=frd n [] (upd J p V):=by
       rw [← Qkf];simp
      show assign.wpIn (FR (some b)) 0 P _ ({ tmps:=((#[p].zip #[V]).foldl (fun (tmps:Array Value) (y:Nat × Value)=>tmps.setIfInBounds y.1 y.2) (Array.ofFn (n:=n) fun i=>J i)),defers:=[] }:Act) w
      rw [e1]
      have run1:=hr _ _ _ _ _ _ _ ho1 (J:=upd J p V) (dsv:=[]) (rdv:=some b) hp (fun o ho=>by simp at ho;subst ho;exact hb1) (Qgm.put (d:=some p) q2 ha) .nil rfl
      refine wpIn_mono run1 fun e a' w1 hq=>?_
      cases e with
      | normal =>
       obtain ⟨dsv,J1,rfl,o,ho,_,σ1,r1,r2,r3,r4,r5⟩:=hq
       simp at ho;subst ho
       cases r2
       obtain ⟨b1,e1',fn1,J1',db1,de1,s1,s2,s3,s4⟩:=r5.lp hnm1
       have hσ1:=r3.le _ _ hσ
       rw [hσ1] at s1;cases s1
       refine ⟨_,run_beginRound (P:=P) s4 rfl,?_⟩
       have hp1:Pre B w0 M σ1 fr m1 w1 hi:=hp.next r3 r4 r5
       have hml:MLe m1 (m1.set nm (.lp n1 env1' p1 assign1 QnL d1 .busy)):=MLe.set _ hlt1
       have hsl:SLe m1.c (m1.set nm (.lp n1 env1' p1 assign1 QnL d1 .busy)).c σ1 σ1:=SLe.refl _ _ _
       have hp2:=hp1.next hsl hml (Good.lpSet (st':=.busy) r5 hnm1 hσ1 s2 s3 s4)
       have run2:=hr _ _ _ _ _ _ _ ho2 (J:=J1) (dsv:=[]) (rdv:=some b) hp2 (fun o ho=>by simp at ho;subst ho;exact hb2) r1 .nil rfl
       refine wpIn_mono (F:=FR (some b)) run2 fun e a' w2 hq=>?_
       cases e with
       | normal =>
        obtain ⟨dsv,J2,rfl,o,ho,_,σ2,t1,t2,t3,t4,t5⟩:=hq
        simp at ho;subst ho
        obtain ⟨b2,e2',fn2,J2',db2,de2,u1,u2,u3,u4⟩:=t5.lp hnm2
        have hσ2:=t3.le _ _ hσ1
        rw [hσ2] at u1;cases u1
        refine ⟨_,_,run_endRound (P:=P) none u4,?_⟩
        refine ⟨_,rfl,(AV.b true,m2.set nm (.lp n2 env2' p2 assign2 Qp5 d2 .ready)),List.mem_cons_self,σ2,.b true,?_,?_,Good.lpSet (st':=.ready) t5 hnm2 hσ2 u2 u3 u4⟩
        ·exact r3.trans t3 r4.c t4.c
        ·exact (r4.trans hml).trans (t4.trans (MLe.set _ hlt2))
       | ret=>obtain ⟨_,_,_,o,ho,hx,_⟩:=hq;simp at ho;subst ho;cases hx
       | exit j=>obtain ⟨_,_,_,o,ho,hx,_⟩:=hq;simp at ho;subst ho;cases hx
       | _=>exact hq.elim
      | ret=>obtain ⟨_,_,_,o,ho,hx,_⟩:=hq;simp at ho;subst ho;cases hx
      | exit j=>obtain ⟨_,_,_,o,ho,hx,_⟩:=hq;simp at ho;subst ho;cases hx
      | _=>exact hq.elim
     ·cases h
    ·cases h
   ·cases h
  ·cases h
 ·cases h
end
end Go.Ce
namespace Go.Ce
open Go.RowKit Go.Vx
variable [Tok]
def Qq0 (C:Cfg) (P:Program) (B:Nat) (cf yf:Nat->List AV->Mem->RL):Prop:=∀ (n id:Nat) (ops:Array Oper) (env env':Tr AV) (m m':Mem) (ds:List DF),drawR C n cf yf ops.toList env m=some (env',m') ->
 ∀ {w0:World} {M:Nat->Prop} [Inv w0 M] {σ:Sig} {fr:Nat->Res} {w:World} {hi:Nat} {J:Env} {dsv:List Deferred} {rdv:Option Nat},Pre B w0 M σ fr m w hi->m'.c<=hi->Qgm σ env J->RelD σ ds dsv ->
 (Code.region id ops true).wpIn (FR rdv) 0 P (QiQ n (QiZ B w0 M fr σ m [⟨.nm,env',ds,m'⟩])) (frd n dsv J) w
def Qrj (C:Cfg) (cf yf:Nat->List AV->Mem->RL):Prop:=∀ (n:Nat) (l:List Oper) (env env':Tr AV) (m m':Mem),drawR C n cf yf l env m=some (env',m')->m.c<=m'.c
structure HookOk (C:Cfg) (P:Program):Prop where
 cm:Qk8 C.hk
 ok:∀ B,QfM P B C.hk
theorem Qgb {C:Cfg} {P:Program} (HH:HookOk C P) {ih:Run} (hcm:QeJ ih):Qk8 (callH C ih):=by
 intro f args m outs h
 unfold callH at h
 split at h
 ·rename_i r hr
  cases h
  exact HH.cm _ _ _ _ hr
 ·exact QiD hcm _ _ _ _ h
theorem QkP {C:Cfg} {P:Program} {B:Nat} (HC:CfgOk C P) (HH:HookOk C P) {ih:Run} (hr:Qjd P B ih) (hcm:QeJ ih):QfM P B (callH C ih):=by
 intro f args m outs h
 unfold callH at h
 split at h
 ·rename_i r hr
  cases h
  exact HH.ok B _ _ _ _ hr
 ·exact Qj4 HC hr hcm _ _ _ _ h
section
variable {C:Cfg} {P:Program} (HC:CfgOk C P) {n:Nat} {env:Tr AV} {m:Mem} {B:Nat} {w0:World} {M:Nat->Prop} [Inv w0 M] {σ σ':Sig} {fr:Nat->Res} {w w':World} {hi:Nat} {rdv:Option Nat}
theorem Qqw (HH:HookOk C P) {ih:Run} (hcm:QeJ ih) (hd:Qrj C (callH C ih) (yieldA ih)):QeJ (execF C ih):=by
 intro n rd c env ds m outs h
 have one:∀ {x:Ex},some [(⟨x,env,ds,m⟩:Out)]=some outs->CmO m outs:=fun h=>by cases h;exact ⟨by simp,fun o ho=>by simp at ho;subst ho;exact Nat.le_refl _⟩
 unfold execF at h
 split at h
 ·exact one h
 ·exact one h
 ·exact one h
 ·exact one h
 ·rename_i draw
  cases draw with
  | true =>
   obtain ⟨r,hr,h⟩:=map_some h
   subst h
   have:=hd _ _ _ _ _ _ (show _=some (r.1,r.2) from hr)
   exact ⟨by simp,fun o ho=>by simp at ho;subst ho;exact this⟩
  | false=>exact QhM (Qgb HH hcm) (Qgc hcm) h
 ·obtain ⟨o1,h1,h⟩:=bind_some h
  exact Qmi h (hcm _ _ _ _ _ _ _ h1) fun o _ l' hl'=>Qmy (fun env ds m l hl=>hcm _ _ _ _ _ _ _ hl) hl'
 ·split at h
  ·rename_i t _
   cases t with
   | true=>exact hcm _ _ _ _ _ _ _ h
   | false=>exact hcm _ _ _ _ _ _ _ h
  ·cases h
 ·obtain ⟨o1,h1,h⟩:=map_some h
  subst h
  have:=hcm _ _ _ _ _ _ _ h1
  refine ⟨by simpa using this.1,fun o ho=>?_⟩
  obtain ⟨q,hq,rfl⟩:=List.mem_map.1 ho
  have h2:=this.2 q hq
  split
  ·rename_i j _
   cases Nat.beq j _<;>exact h2
  ·exact h2
 ·obtain ⟨o1,h1,h⟩:=bind_some h
  exact Qmi h (hcm _ _ _ _ _ _ _ h1) fun o _ l' hl'=>Qmy (fun env ds m l hl=>hcm _ _ _ _ _ _ _ hl) hl'
 ·obtain ⟨_,h⟩:=Qco h
  split at h
  ·obtain ⟨rs,hrs,h⟩:=bind_some h
   have hc:=QiD hcm _ _ _ _ hrs
   refine QfY (m:=m) h ⟨hc.1,fun o ho=>Nat.le_trans (Nat.le_trans (Nat.le_succ _) (Nat.le_succ _)) (hc.2 o ho)⟩ fun o ho l' hl'=>?_
   split at hl'
   ·cases hl';exact ⟨by simp,fun x hx=>by simp at hx;subst hx;exact Nat.le_refl _⟩
   ·cases hl'
  ·cases h
 ·cases h
def Qpo (n:Nat) (P:Program) (F:Fence) (c:Code) (Q:Exit->Act->World->Prop) (a:Act) (w:World):Prop :=
 ∀ (b:Frame) (k:List Item) (cs:List Frame),b.roundOf=F.round->F.fn b.fn->F.room (cs.length+1+0) ->
  ∃ e a' w',Q e a' w'/\ArrivesIn (Machine.fenced P F) P (lone (b.atR a (.code c :: .inLoop c :: k)) cs w) b k cs e a' w'
theorem QsI {F:Fence} {c:Code} {Q:Exit->Act->World->Prop} {a:Act} (h:Qpo n P F c Q a w):(Code.loop c).wpIn F 0 P Q a w:=by
 intro b k cs hro hb hr
 obtain ⟨e,a',w',hq,harr⟩:=h b k cs hro hb hr
 exact ⟨e,a',w',hq,.of_steps (.one (fenced_calm hb hr rfl) stepR_loop) harr⟩
theorem Qoa {F:Fence} {c:Code} {Q:Exit->Act->World->Prop} {a:Act} (h:c.wpIn F 0 P (Exit.then (fun a w=>Qpo n P F c Q a w) Q) a w):Qpo n P F c Q a w:=by
 intro b k cs hro hb hr
 obtain ⟨e,a1,w1,hq,harr⟩:=h b (.inLoop c :: k) cs hro hb hr
 cases e with
 | normal =>
  obtain ⟨e2,a2,w2,hq2,harr2⟩:=hq b k cs hro hb hr
  exact ⟨e2,a2,w2,hq2,.of_steps (StepsIn.trans harr (.one (fenced_calm hb hr rfl) stepR_inLoop)) harr2⟩
 | exit id=>exact ⟨.exit id,a1,w1,hq,.pass (x:=.inLoop c) rfl (fun _ _=>.inl (by simp)) harr⟩
 | goto l=>exact ⟨.goto l,a1,w1,hq,.pass (x:=.inLoop c) rfl (fun _ _=>.inl (by simp)) harr⟩
 | ret=>exact ⟨.ret,a1,w1,hq,.pass (x:=.inLoop c) rfl (fun _ _=>.inl (by simp)) harr⟩
 | panic ch=>exact ⟨.panic ch,a1,w1,hq,.pass (x:=.inLoop c) rfl (fun _ _=>.inl (by simp)) harr⟩
 | outgrown=>exact ⟨.outgrown,a1,w1,hq,.pass (x:=.inLoop c) rfl (fun _ _=>.inl (by simp)) harr⟩
def Qlg (P:Program) (B:Nat) (run:Run):Prop:=∀ n rd c env ds m outs,run n rd (.loop c) env ds m=some outs->∀ {w0:World} {M:Nat->Prop} [Inv w0 M] {σ:Sig} {fr:Nat->Res} {w:World} {hi:Nat} {J:Env} {dsv:List Deferred} {rdv:Option Nat} {Q:Exit->Act->World->Prop},
 Pre B w0 M σ fr m w hi->(∀ o∈outs,o.m.c<=hi)->Qgm σ env J->RelD σ ds dsv->rd=rdv.isSome->(∀ e a w,QiQ n (QiZ B w0 M fr σ m outs) e a w->Q e a w)->Qpo n P (FR rdv) c Q (frd n dsv J) w
theorem Qk5 {k:Tr AV->List DF->Mem->Option (List Out)} (hk:∀ env ds m l,k env ds m=some l->CmO m l) {l outs:List Out} (h:goO (thn k) l=some outs) (hb:∀ o∈outs,o.m.c<=hi):∀ o∈l,o.m.c<=hi:=fun o ho=>by
 obtain ⟨l',h1,h2⟩:=Qfj h o ho
 have hc:=Qmy hk h1
 obtain ⟨x,hx⟩:=List.exists_mem_of_ne_nil _ hc.1
 exact Nat.le_trans (hc.2 x hx) (hb x (h2 x hx))
include HC
theorem QpB (HH:HookOk C P) {ih:Run} (hr:Qjd P B ih) (hcm:QeJ ih) (hl:Qlg P B ih) (hd:Qq0 C P B (callH C ih) (yieldA ih)):Qjd P B (execF C ih)/\Qlg P B (execF C ih):=by
 have hcall:=Qj4 HC hr hcm
 have hyield:=QkK hr hcm
 have hloop:Qlg P B (execF C ih):=by
  intro n rd c env ds m outs h w0 M _ σ fr w hi J dsv rdv Q hp hb hE hD hrd hQ
  have h:(ih n rd c env ds m).bind (goO (thn (ih n rd (.loop c))))=some outs:=h
  obtain ⟨o1,h1,h⟩:=bind_some h
  have hb1:=Qk5 (fun env ds m l hl=>hcm _ _ _ _ _ _ _ hl) h hb
  have run1:=hr _ _ _ _ _ _ _ h1 hp hb1 hE hD hrd
  refine Qoa (wpIn_mono run1 fun e a w1 hq=>?_)
  have other:∀ {x:Ex} {dsv:List Deferred} {J:Env},x≠.nm->QiZ B w0 M fr σ m o1 x dsv J w1->QiZ B w0 M fr σ m outs x dsv J w1:=by
   rintro x dsv J hx ⟨o,ho,hox,q⟩
   obtain ⟨l',k1,k2⟩:=Qfj h o ho
   have:l'=[o]:=by
    unfold thn at k1
    split at k1
    ·rename_i hxx;rw [hox] at hxx;exact absurd hxx hx
    ·cases k1;rfl
   subst this
   exact ⟨o,k2 o (by simp),hox,q⟩
  cases e with
  | normal =>
   obtain ⟨dsv1,J1,rfl,o,ho,hox,σ1,q1,q2,q3,q4,q5⟩:=hq
   obtain ⟨l',k1,k2⟩:=Qfj h o ho
   have k1:ih n rd (.loop c) o.env o.ds o.m=some l':=by
    unfold thn at k1
    rw [hox] at k1
    exact k1
   exact hl _ _ _ _ _ _ _ k1 (hp.next q3 q4 q5) (fun o ho=>hb o (k2 o ho)) q1 q2 hrd fun e a w hq=>hQ e a w (Qfy (fun x ds J w hq=>hq.step k2 q3 q4) e a w hq)
  | ret=>obtain ⟨dsv1,J1,h1,hq⟩:=hq;exact hQ _ _ _ ⟨dsv1,J1,h1,other (by simp) hq⟩
  | exit i=>obtain ⟨dsv1,J1,h1,hq⟩:=hq;exact hQ _ _ _ ⟨dsv1,J1,h1,other (by simp) hq⟩
  | _=>exact hq.elim
 refine ⟨?_,hloop⟩
 intro n rd c env ds m outs h w0 M _ σ fr w hi J dsv rdv hp hb hE hD hrd
 have here:∀ {x:Ex},some [(⟨x,env,ds,m⟩:Out)]=some outs->QiZ B w0 M fr σ m outs x dsv J w:=fun h=>by
  cases h
  exact ⟨_,List.mem_cons_self,rfl,σ,hE,hD,SLe.refl _ _ _,MLe.refl _,hp.good⟩
 have h0:=h
 unfold execF at h
 split at h
 ·exact wpIn_skip ⟨dsv,J,rfl,here h⟩
 ·exact wpIn_label ⟨dsv,J,rfl,here h⟩
 ·exact wpIn_ret ⟨dsv,J,rfl,here h⟩
 ·exact wpIn_exit ⟨dsv,J,rfl,here h⟩
 ·rename_i id ops draw
  cases draw with
  | true =>
   obtain ⟨r,hr2,h⟩:=map_some h
   subst h
   exact hd _ _ _ _ _ _ _ _ (show _=some (r.1,r.2) from hr2) hp (hb _ List.mem_cons_self) hE hD
  | false =>
   refine wpIn_region ?_
   have:=Qlp HC (QkP HC HH hr hcm) hyield (Qgb HH hcm) (Qgc hcm) hrd ops.toList 0 (Q:=QiQ n (QiZ B w0 M fr σ m outs)) (by simp) h hp hb hE hD (fun _ _ _ h=>h)
   simpa using this
 ·rename_i c1 c2
  obtain ⟨o1,h1,h⟩:=bind_some h
  have hb1:=Qk5 (fun env ds m l hl=>hcm _ _ _ _ _ _ _ hl) h hb
  refine wpIn_seq (wpIn_mono (hr _ _ _ _ _ _ _ h1 hp hb1 hE hD hrd) fun e a w1 hq=>?_)
  have other:∀ {x:Ex} {dsv:List Deferred} {J:Env},x≠.nm->QiZ B w0 M fr σ m o1 x dsv J w1->QiZ B w0 M fr σ m outs x dsv J w1:=by
   rintro x dsv J hx ⟨o,ho,hox,q⟩
   obtain ⟨l',k1,k2⟩:=Qfj h o ho
   have:l'=[o]:=by
    unfold thn at k1
    split at k1
    ·rename_i hxx;rw [hox] at hxx;exact absurd hxx hx
    ·cases k1;rfl
   subst this
   exact ⟨o,k2 o (by simp),hox,q⟩
  cases e with
  | normal =>
   obtain ⟨dsv1,J1,rfl,o,ho,hox,σ1,q1,q2,q3,q4,q5⟩:=hq
   obtain ⟨l',k1,k2⟩:=Qfj h o ho
   have k1:ih n rd c2 o.env o.ds o.m=some l':=by
    unfold thn at k1
    rw [hox] at k1
    exact k1
   exact wpIn_mono (hr _ _ _ _ _ _ _ k1 (hp.next q3 q4 q5) (fun o ho=>hb o (k2 o ho)) q1 q2 hrd) (Qfy (fun x ds J w hq=>hq.step k2 q3 q4))
  | ret=>obtain ⟨dsv1,J1,h1,hq⟩:=hq;exact ⟨dsv1,J1,h1,other (by simp) hq⟩
  | exit i=>obtain ⟨dsv1,J1,h1,hq⟩:=hq;exact ⟨dsv1,J1,h1,other (by simp) hq⟩
  | _=>exact hq.elim
 ·rename_i x c1 c2
  split at h
  ·rename_i t hx
   have r1:=QeP hE hp.gl hx
   generalize e1:ev n J x=V at r1
   cases r1
   refine wpIn_cond (t:=t) (by rw [Qd2];exact e1) ?_
   cases t with
   | true=>exact hr _ _ _ _ _ _ _ h hp hb hE hD hrd
   | false=>exact hr _ _ _ _ _ _ _ h hp hb hE hD hrd
  ·cases h
 ·rename_i i c1
  obtain ⟨o1,h1,h⟩:=map_some h
  subst h
  have hb1:∀ o∈o1,o.m.c<=hi:=fun o ho=>by
   have:=hb _ (List.mem_map.2 ⟨o,ho,rfl⟩)
   revert this
   split
   ·rename_i j _
    cases Nat.beq j i<;>exact id
   ·exact id
  refine wpIn_block (wpIn_mono (hr _ _ _ _ _ _ _ h1 hp hb1 hE hD hrd) fun e a w1 hq=>?_)
  have keep:∀ {o:Out},o∈o1->(∀ j,o.x = .ex j->¬j=i)->o∈o1.map fun o=>(match o.x with|.ex j=>cond (Nat.beq j i) ⟨.nm,o.env,o.ds,o.m⟩ o|_=>o):=fun {o} ho hj=>by
   refine List.mem_map.2 ⟨o,ho,?_⟩
   split
   ·rename_i j hx
    have:=hj j hx
    rw [QbT]
    simp [this]
   ·rfl
  cases e with
  | normal =>
   obtain ⟨dsv1,J1,h1,o,ho,hox,q⟩:=hq
   exact ⟨dsv1,J1,h1,o,keep ho (fun j hj=>by rw [hox] at hj;cases hj),hox,q⟩
  | ret =>
   obtain ⟨dsv1,J1,h1,o,ho,hox,q⟩:=hq
   exact ⟨dsv1,J1,h1,o,keep ho (fun j hj=>by rw [hox] at hj;cases hj),hox,q⟩
  | exit j =>
   obtain ⟨dsv1,J1,h1,o,ho,hox,q⟩:=hq
   by_cases hj:j=i
   ·subst hj
    simp only [Exit.inBlock,if_true]
    refine ⟨dsv1,J1,h1,⟨.nm,o.env,o.ds,o.m⟩,List.mem_map.2 ⟨o,ho,?_⟩,rfl,q⟩
    rw [hox]
    simp
   ·simp only [Exit.inBlock,hj,if_false]
    exact ⟨dsv1,J1,h1,o,keep ho (fun j' hj'=>by rw [hox] at hj';cases hj';exact hj),hox,q⟩
  | _=>exact hq.elim
 ·rename_i c1
  exact QsI (n:=n) (hloop n rd c1 env ds m outs h0 hp hb hE hD hrd (fun _ _ _ h=>h))
 ·rename_i g ps assign body
  obtain ⟨hrd',h⟩:=Qco h
  have hnone:rdv=none:=by
   rw [hrd'] at hrd
   cases rdv with
   | none=>rfl
   | some _=>cases hrd
  split at h
  ·rename_i p f caps hps hg
   obtain ⟨rs,hrs,hmany⟩:=bind_some h
   clear h h0 here
   subst hnone
   have hps:ps = #[p]:=by obtain ⟨l⟩:=ps;simpa using hps
   subst hps
   have hcs:=QiD hcm _ _ _ _ hrs
   have hout:∀ r∈rs,∃ n' env' p' assign' body' d',r.2.h.get (Nat.succ m.c)=some (.lp n' env' p' assign' body' d' .ready)/\(⟨.nm,env,.mk m.c :: ds,r.2.set (Nat.succ m.c) (.lp n' env' p' assign' body' d' .exhausted)⟩:Out)∈outs:=fun r hr'=>by
    obtain ⟨l',k1,k2⟩:=QeH hmany r hr'
    split at k1
    ·rename_i n' env' p' assign' body' d' hq
     cases k1
     exact ⟨n',env',p',assign',body',d',hq,k2 _ (by simp)⟩
    ·cases k1
   have hbr:∀ r∈rs,r.2.c<=hi:=fun r hr'=>by
    obtain ⟨_,_,_,_,_,_,_,ho⟩:=hout r hr'
    exact hb _ ho
   obtain ⟨r0,hr0⟩:=List.exists_mem_of_ne_nil _ hcs.1
   have hc2:m.c+2<=hi:=Nat.le_trans (hcs.2 r0 hr0) (hbr r0 hr0)
   have rg:=QeP hE hp.gl hg
   generalize eg:ev n J g=G at rg
   cases rg with|@fn _ _ vcs hcaps=>?_
   refine wpIn_rangeFunc ?_
   intro fn _
   obtain ⟨f1,f2,f3⟩:=hp.fresh m.c (Nat.le_refl _) (by omega)
   obtain ⟨f4,f5,f6⟩:=hp.fresh (m.c+1) (by omega) (by omega)
   have hB:=hp.hb
   have g1:=hp.good.new (x:=m.c) (e:=0) (blk:=.df true) (o:=.deferred (some [])) (by omega) f1 f3 f2 rfl rfl
   have hσ1:(σ.up m.c w.heap.size 0) (m.c+1)=none:=by unfold Sig.up;rw [if_neg (by omega)];exact f4
   have le1:Le σ (σ.up m.c w.heap.size 0):=Sig.le_up f1
   have le2:=Sig.le_up (b:=w.heap.size+1) (e:=0) hσ1
   have hsz:(w.alloc (.deferred (some []))).heap.size=w.heap.size+1:=by simp
   have g2:=g1.new (x:=m.c+1) (e:=0) (blk:=.lp n env p assign body m.c .ready) (o:=.loop (QgX fn n J p assign body w.heap.size)) (by omega) hσ1 (by unfold Hp.put;rw [if_neg (by omega)];exact f6) f5 rfl
    ⟨fn,J,w.heap.size,0,hE.mono (le1.trans (by rw [hsz];exact le2)),by rw [hsz];exact le2 _ _ Sig.up_self,rfl⟩
   rw [hsz] at g2
   have hm1:MLe m ((m.new (.df true)).new (.lp n env p assign body m.c .ready)):=(MLe.new _ _).trans (MLe.new _ _)
   have hs1:SLe m.c ((m.new (.df true)).new (.lp n env p assign body m.c .ready)).c σ ((σ.up m.c w.heap.size 0).up (m.c+1) (w.heap.size+1) 0) :=
    (SLe.new (b:=w.heap.size) (e:=0) f1 (Nat.le_refl _)).trans (SLe.new (b:=w.heap.size+1) (e:=0) hσ1 (Nat.le_refl _)) (Nat.le_succ _) (Nat.le_succ _)
   have hp1:Pre B w0 M ((σ.up m.c w.heap.size 0).up (m.c+1) (w.heap.size+1) 0) fr ((m.new (.df true)).new (.lp n env p assign body m.c .ready)) ((w.alloc (.deferred (some []))).alloc (.loop (QgX fn n J p assign body w.heap.size))) hi:=by
    refine hp.next hs1 hm1 ?_
    show Good B w0 M _ fr ((m.h.put m.c (some _)).put (m.c+1) (some _)).get _
    rw [QbO,QbO]
    exact g2
   have hargs:RelL ((σ.up m.c w.heap.size 0).up (m.c+1) (w.heap.size+1) 0) (.y (Nat.succ m.c) :: caps) (.func (.yield (w.heap.size+1)) #[] #[] :: vcs):=.cons (.y Sig.up_self) (hcaps.mono (le1.trans le2))
   have hcl:=hcall _ _ _ _ hrs hp1 hbr hargs
   have hen:∃ fn' c',C.fn f=some fn'/\fn'.body=some c':=by
    unfold callA at hrs
    obtain ⟨fn',hfn,hrs⟩:=bind_some hrs
    cases hbody:fn'.body with
    | some c'=>exact ⟨fn',c',hfn,hbody⟩
    | none =>
     rw [hbody] at hrs
     obtain ⟨q,hq,_⟩:=map_some hrs
     unfold extA at hq
     split at hq
     ·rename_i he;cases he
     ·cases hq
   obtain ⟨fn',c',hfn',hc'⟩:=hen
   have hent:=HC.en f fn' c' hfn' hc' (Value.func (.yield (w.heap.size+1)) #[] #[] :: vcs).toArray ((w.alloc (.deferred (some []))).alloc (.loop (QgX fn n J p assign body w.heap.size)))
   rw [hent] at hcl
   refine ⟨w.heap.size+1,[{ target:=.collected w.heap.size,args:=#[] }],((w.alloc (.deferred (some []))).alloc (.loop (QgX fn n J p assign body w.heap.size))),{ target:=.fn (.func f) vcs.toArray,args:=#[.func (.yield (w.heap.size+1)) #[] #[]] },((w.alloc (.deferred (some []))).alloc (.loop (QgX fn n J p assign body w.heap.size))),f,(Value.func (.yield (w.heap.size+1)) #[] #[] :: vcs).toArray,((w.alloc (.deferred (some []))).alloc (.loop (QgX fn n J p assign body w.heap.size))),run_enterLoop_outer fn _ _ assign body,?_,fun _ _=>trivial,?_,fun h=>by simp [FR,Fence.wide] at h,?_⟩
   ·have:(frd n dsv J).eval g = .func (.func f) #[] vcs.toArray:=by rw [Qd2];exact eg
    show (resolve (frd n dsv J).eval (rangeCall g (w.heap.size+1)) 0).run P _=_
    simp only [resolve,rangeCall,this,Deferred.ofValue,Sem.run_pure,List.map_toArray,List.map_cons,List.map_nil]
    simp [Act.eval]
   ·simp only [invoke]
    have:(#[Value.func (.yield (w.heap.size+1)) #[] #[]]++vcs.toArray)=(Value.func (.yield (w.heap.size+1)) #[] #[] :: vcs).toArray:=by simp
    rw [this]
    exact hent
   ·refine CallsIn.mono ((callsIn_wide (n:=0)).2 hcl) ?_
    rintro e w3 ⟨v,rfl,r,hr',σ2,q1,q2,q3,q4⟩
    obtain ⟨n',env',p',assign',body',d',hlp,ho⟩:=hout r hr'
    obtain ⟨b,ee,fn2,J2,db,de,u1,u2,u3,u4⟩:=q4.lp hlp
    have hy:=q2.le _ _ (show ((σ.up m.c w.heap.size 0).up (m.c+1) (w.heap.size+1) 0) (m.c+1)=_ from Sig.up_self)
    rw [show Nat.succ m.c=m.c+1 from rfl] at u1
    rw [hy] at u1;cases u1
    refine ⟨none,_,run_endLoop (P:=P) u4 (by intro h;cases h),⟨{ target:=.collected w.heap.size,args:=#[] } :: dsv,J,rfl,_,ho,rfl,σ2,hE.mono ((le1.trans le2).trans q2.le),.mk (e:=0) (q2.le _ _ (le2 _ _ Sig.up_self)) (hD.mono ((le1.trans le2).trans q2.le)),?_,?_,Good.lpSet (st':=.exhausted) q4 hlp hy u2 u3 u4⟩⟩
    ·exact hs1.trans q2 hm1.c q3.c
    ·exact (hm1.trans q3).trans (MLe.set _ (Nat.lt_of_lt_of_le (Nat.lt_succ_self _) q3.c))
  ·cases h
 ·cases h
end
end Go.Ce
namespace Go.Ce
open Go.RowKit Go.Vx
variable [Tok]
def Wk (a c:AB):Prop:=∀ (σ:Sig) (x:Nat) (w:World) (S:Nat->Prop),(res σ x c).holds w S->(res σ x a).holds w S
theorem Wk.refl (a:AB):Wk a a:=fun _ _ _ _ h=>h
theorem Wk.trans {a b c:AB} (h:Wk a b) (h':Wk b c):Wk a c:=fun σ x w S q=>h σ x w S (h' σ x w S q)
theorem QnW {a b:AV} (h:beqV a b=true):a=b:=by
 cases a<;>cases b<;>first|rfl|(cases h;done)|skip
 ·have h:Nat.beq _ _=true:=h
  rw [Nat.eq_of_beq_eq_true h]
 ·have h:(_ == _)=true:=h
  rw [eq_of_beq h]
 ·have h:(Nat.beq _ _&&eqI _ _)=true:=h
  rw [Bool.and_eq_true,QdA] at h
  rw [Qg1 (Nat.eq_of_beq_eq_true h.1),QQ1 h.2]
 ·have h:beqL _ _=true:=h
  rw [Qey] at h
  rw [QQ1 h]
 ·have h:(Nat.beq _ _&&Nat.beq _ _)=true:=h
  rw [Bool.and_eq_true] at h
  rw [Nat.eq_of_beq_eq_true h.1,Nat.eq_of_beq_eq_true h.2]
 ·have h:(Nat.beq _ _&&Nat.beq _ _&&Nat.beq _ _&&Nat.beq _ _&&(_ == _))=true:=h
  simp only [Bool.and_eq_true] at h
  obtain ⟨⟨⟨⟨h1,h2⟩,h3⟩,h4⟩,h5⟩:=h
  rw [Nat.eq_of_beq_eq_true h1,Nat.eq_of_beq_eq_true h2,Nat.eq_of_beq_eq_true h3,Nat.eq_of_beq_eq_true h4,eq_of_beq h5]
 ·have h:Nat.beq _ _=true:=h
  rw [Nat.eq_of_beq_eq_true h]
theorem Rel.flatOf {σ:Sig} {a:AV} {v:Value} (h:Rel σ a v) (hf:a.flat=true):v.cells = #[v]:=by
 cases h<;>first|rfl|assumption|(exact QfE (by assumption))|(cases hf;done)
def WkV (a c:AV):Prop:=∀ (σ:Sig) (v:Value),Rel σ c v->Rel σ a v
inductive WkL:List AV->List AV->Prop where
 | nil:WkL [] []
 | cons {a c:AV} {l m:List AV} (h:WkV a c) (t:WkL l m):WkL (a :: l) (c :: m)
theorem WkV.refl (a:AV):WkV a a:=fun _ _ h=>h
theorem WkV.any {c:AV} (h:c.flat=true):WkV .any c:=fun _ _ hr=>.any _ (hr.flatOf h)
theorem WkL.rel {σ:Sig}:∀ {l m:List AV} {vs:List Value},WkL l m->RelL σ m vs->RelL σ l vs
 | _,_,_,.nil,.nil=>.nil
 | _,_,_,.cons h t,.cons h' t'=>.cons (h _ _ h') (t.rel t')
theorem QiO {cs cs':List AV} {T k:Nat} {ex:Bool} (h:WkL cs cs'):Wk (.row cs T k ex) (.row cs' T k ex):=by
 intro σ x w S hq
 obtain ⟨b,e,o,h1,h2,h3,vs,rest,h4,h5,h6⟩:=hq
 exact ⟨b,e,o,h1,h2,h3,vs,rest,h.rel h4,h5,h6⟩
noncomputable def wkV (a b:AV):Bool:=match a with|.any=>b.flat|a=>beqV a b
theorem QuS {a b:AV} (h:wkV a b=true):WkV a b:=by
 unfold wkV at h
 split at h
 ·exact WkV.any h
 ·exact (QnW h) ▸ WkV.refl _
theorem Qra:∀ {l m:List AV},wkL l m=true->WkL l m
 | [],[],_=>.nil
 | [],_ :: _,h=>by cases h
 | _ :: _,[],h=>by cases h
 | a :: l,b :: m,h=>by
  have h:(wkV a b&&wkL l m)=true:=h
  rw [Bool.and_eq_true] at h
  exact .cons (QuS h.1) (Qra h.2)
theorem QuE {a b:AB} (h:wkB a b=true):Wk a b:=by
 cases a<;>cases b<;>first|(cases h;done)|skip
 have h:(Nat.beq _ _&&Nat.beq _ _&&(_ == _)&&wkL _ _)=true:=h
 rw [Bool.and_eq_true,Bool.and_eq_true,Bool.and_eq_true] at h
 obtain ⟨⟨⟨h1,h2⟩,h3⟩,h4⟩:=h
 rw [Nat.eq_of_beq_eq_true h1,Nat.eq_of_beq_eq_true h2,eq_of_beq h3]
 exact QiO (Qra h4)
theorem Qk4:∀ {l m:List AV},l.length=m.length->l.all AV.flat=true->m.all AV.flat=true->WkL (joinL l m) l/\WkL (joinL l m) m
 | [],[],_,_,_=>⟨.nil,.nil⟩
 | [],_ :: _,h,_,_=>by simp at h
 | _ :: _,[],h,_,_=>by simp at h
 | a :: l,b :: m,h,h1,h2=>by
  simp only [List.all_cons,Bool.and_eq_true] at h1 h2
  obtain ⟨i1,i2⟩:=Qk4 (l:=l) (m:=m) (by simpa using h) h1.2 h2.2
  have e:joinL (a :: l) (b :: m)=cond (beqV a b) a .any :: joinL l m:=rfl
  rw [e]
  cases hb:beqV a b with
  | true =>
   have:=QnW hb
   subst this
   exact ⟨.cons (WkV.refl _) i1,.cons (WkV.refl _) i2⟩
  | false=>exact ⟨.cons (WkV.any h1.1) i1,.cons (WkV.any h2.1) i2⟩
theorem Qqe {a b c:AB} (h:joinB a b=some c):Wk c a/\Wk c b:=by
 cases a<;>cases b<;>first|(cases h;done)|skip
 rename_i cs T k ex cs' T' k' ex'
 have h:cond (Nat.beq T T'&&Nat.beq k k'&&(ex == ex')&&Nat.beq cs.length cs'.length&&cs.all AV.flat&&cs'.all AV.flat) (some (AB.row (joinL cs cs') T k ex)) none=some c:=h
 obtain ⟨hh,h'⟩:=Qbc.1 h
 clear h
 cases h'
 rw [Bool.and_eq_true,Bool.and_eq_true,Bool.and_eq_true,Bool.and_eq_true,Bool.and_eq_true] at hh
 obtain ⟨⟨⟨⟨⟨h1,h2⟩,h3⟩,h4⟩,h5⟩,h6⟩:=hh
 cases Nat.eq_of_beq_eq_true h1
 cases Nat.eq_of_beq_eq_true h2
 cases eq_of_beq h3
 obtain ⟨i1,i2⟩:=Qk4 (Nat.eq_of_beq_eq_true h4) h5 h6
 exact ⟨QiO i1,QiO i2⟩
theorem Qln (off k:Nat) (cs:List AV):WkL (blankA off k cs) cs:=by
 have key:∀ (cs:List AV) (i:Nat),WkL (List.rec (motive:=fun _=>Nat->List AV) (fun _=>[]) (fun a _ ih i=>cond (Nat.ble off i&&Nat.blt i (off+k)) a (cond a.flat .any a) :: ih (Nat.succ i)) cs i) cs:=by
  intro cs
  induction cs with
  | nil=>intro i;exact .nil
  | cons a cs ih =>
   intro i
   refine .cons ?_ (ih _)
   cases Nat.ble off i&&Nat.blt i (off+k) with
   | true=>exact WkV.refl _
   | false =>
    cases hf:a.flat with
    | true=>exact WkV.any hf
    | false=>exact WkV.refl _
 exact key cs 0
theorem Qkp (wr:List Nat):∀ (h:Tr AB) (f:Nat->Option AB) (x:Nat),(wr.foldl (fun h x=>h.put x (f x)) h).get x=if x∈wr then f x else h.get x:=by
 induction wr with
 | nil=>intro h f x;simp
 | cons y wr ih =>
  intro h f x
  rw [List.foldl_cons,ih,Tr.get_put]
  by_cases h1:x∈wr
  ·simp [h1]
  ·by_cases h2:x=y
   ·subst h2;simp
   ·simp [h1,h2]
theorem QhV (lo:Nat) (f:Nat->Option AB) (x:Nat) (h:Tr AB):∀ n:Nat,(Nat.rec (motive:=fun _=>Tr AB) h (fun k ih=>ih.put (lo+k) (f (lo+k))) n:Tr AB).get x=if lo<=x/\x<lo+n then f x else h.get x
 | 0=>by rw [if_neg (by omega)];rfl
 | n+1=>by
  show (Tr.put _ (lo+n) (f (lo+n))).get x=_
  rw [Tr.get_put,QhV lo f x h n]
  by_cases h1:x=lo+n
  ·subst h1;rw [if_pos rfl,if_pos (by omega)]
  ·rw [if_neg h1]
   by_cases h2:lo<=x/\x<lo+n
   ·rw [if_pos h2,if_pos (by omega)]
   ·rw [if_neg h2,if_neg (by omega)]
theorem Qpg (h:Tr AB) (wr:List Nat) (lo n x:Nat):(hideA h wr lo n).get x=if lo<=x/\x<lo+n then none else if x∈wr then none else h.get x:=by
 unfold hideA
 rw [QhV lo (fun _=>none) x,Qkp wr h (fun _=>none) x]
theorem QlE (h h':Tr AB) (wr:List Nat) (lo n x:Nat):(backA h h' wr lo n).get x=if (lo<=x/\x<lo+n)∨x∈wr then h'.get x else h.get x:=by
 unfold backA
 rw [QhV lo h'.get x,Qkp wr h h'.get x]
 by_cases h1:lo<=x/\x<lo+n
 ·rw [if_pos h1,if_pos (.inl h1)]
 ·rw [if_neg h1]
  by_cases h2:x∈wr
  ·rw [if_pos h2,if_pos (.inr h2)]
  ·rw [if_neg h2,if_neg (by rintro (h|h);exact h1 h;exact h2 h)]
def Rec.tch (r:Rec) (x:Nat):Prop:=x∈r.wr∨(r.lo<=x/\x<r.hi)
theorem Qks:∀ (un:List Rec) (h:Tr AB) {x:Nat} {b:AB},(hidA h un).get x=some b->h.get x=some b/\∀ u∈un,¬u.tch x
 | [],_,_,_,hq=>⟨hq,by simp⟩
 | u :: un,h,x,b,hq=>by
  have hq:(hidA (hideA h u.wr u.lo (u.hi-u.lo)) un).get x=some b:=hq
  obtain ⟨h1,h2⟩:=Qks un _ hq
  rw [Qpg] at h1
  split at h1
  ·cases h1
  ·rename_i n1
   split at h1
   ·cases h1
   ·rename_i n2
    refine ⟨h1,fun v hv=>?_⟩
    rcases List.mem_cons.1 hv with rfl|hv
    ·rintro (h|h)
     ·exact n2 h
     ·exact n1 ⟨h.1,by omega⟩
    ·exact h2 v hv
theorem Qlo (f:Nat->Option AB):∀ (ns:List Nat) (t:Tr AB) (x:Nat),(ns.foldl (fun t x=>t.put x (f x)) t).get x=if x∈ns then f x else t.get x:=fun ns t x=>Qkp ns t f x
theorem QlL {n:Nat} {env:Tr AV} {op:Op} {h:Tr AB} {un:List Rec} {x:Nat} {b:AB} (hq:(seesA n env op h un).get x=some b):h.get x=some b/\∀ u∈un,¬u.tch x:=by
 unfold seesA at hq
 split at hq
 ·exact Qks un h hq
 ·rw [Qlo (hidA h un).get] at hq
  split at hq
  ·exact Qks un h hq
  ·rw [Tr.get_lf] at hq;cases hq
theorem Qkg:∀ (un:List Rec) (x:Nat) (b0:Option AB) {a:AB},un.foldl (fun b u=>cond (Nat.ble u.lo x&&Nat.blt x u.hi) none (cond (u.wr.any (Nat.beq x)) (b.bind fun b=>(u.bf.get x).bind fun c=>joinB b c) b)) b0=some a ->
  ∃ b,b0=some b/\Wk a b/\∀ u∈un,¬(u.lo<=x/\x<u.hi)/\(x∈u.wr->∃ c,u.bf.get x=some c/\Wk a c)
 | [],_,_,a,h=>⟨a,h,Wk.refl _,by simp⟩
 | u :: un,x,b0,a,h=>by
  rw [List.foldl_cons] at h
  obtain ⟨b1,h1,h2,h3⟩:=Qkg un x _ h
  cases hl:(Nat.ble u.lo x&&Nat.blt x u.hi) with
  | true=>rw [hl] at h1;cases h1
  | false =>
   rw [hl] at h1
   have nl:¬(u.lo<=x/\x<u.hi):=by
    rintro ⟨q1,q2⟩
    rw [Qbg,Nat.ble_eq_true_of_le q1,QQ3 q2] at hl
    cases hl
   cases hw:u.wr.any (Nat.beq x) with
   | true =>
    rw [hw] at h1
    have h1:(b0.bind fun b=>(u.bf.get x).bind fun c=>joinB b c)=some b1:=h1
    obtain ⟨b,hb,h1⟩:=bind_some h1
    obtain ⟨c,hc,h1⟩:=bind_some h1
    obtain ⟨j1,j2⟩:=Qqe h1
    refine ⟨b,hb,h2.trans j1,fun v hv=>?_⟩
    rcases List.mem_cons.1 hv with rfl|hv
    ·exact ⟨nl,fun _=>⟨c,hc,h2.trans j2⟩⟩
    ·exact h3 v hv
   | false =>
    rw [hw] at h1
    refine ⟨b1,h1,h2,fun v hv=>?_⟩
    rcases List.mem_cons.1 hv with rfl|hv
    ·refine ⟨nl,fun hx=>?_⟩
     rw [List.any_eq_false] at hw
     exact absurd (Nat.beq_refl x) (hw x hx)
    ·exact h3 v hv
theorem Qsd {C:Cfg} {n:Nat} {env:Tr AV} {op:Op} {h:Tr AB} {un:List Rec} {ns:List Nat} {x:Nat} {a:AB} (hq:(subA C n env op h un ns).get x=some a) :
  ∃ b,h.get x=some b/\Wk a b/\∀ u∈un,¬(u.lo<=x/\x<u.hi)/\(x∈u.wr->∃ c,u.bf.get x=some c/\Wk a c):=by
 unfold subA at hq
 split at hq
 ·rename_i t y nm
  split at hq
  ·rename_i cs T k ex _ off q h1 _ _
   rw [Tr.get_put,Tr.get_lf] at hq
   split at hq
   ·rename_i e
    subst e
    cases hq
    obtain ⟨b,h2,h3,h4⟩:=Qkg un x _ h1
    refine ⟨b,h2,(QiO (Qln _ _ _)).trans h3,fun u hu=>⟨(h4 u hu).1,fun hx=>?_⟩⟩
    obtain ⟨c,h5,h6⟩:=(h4 u hu).2 hx
    exact ⟨c,h5,(QiO (Qln _ _ _)).trans h6⟩
   ·cases hq
  ·rw [Tr.get_lf] at hq;cases hq
 ·rw [Qlo (seeA h un)] at hq
  split at hq
  ·exact Qkg un x _ hq
  ·rw [Tr.get_lf] at hq;cases hq
theorem Quu {recs:List Rec} {mask:Nat} {u:Rec} {j:Nat} (h:recs[j]?=some u) (hm:mask.testBit j=false):u∈unA recs mask:=by
 unfold unA
 exact List.mem_map.2 ⟨(u,j),List.mem_filter.2 ⟨List.mem_zipIdx_iff_getElem?.2 h,by simp [hm]⟩,rfl⟩
end Go.Ce
namespace Go.Ce
open Go.RowKit Go.Vx
variable [Tok]
structure StepF (C:Cfg) (n:Nat) (cf yf:Nat->List AV->Mem->RL) (all:List Oper) (recs:List Rec) (env:Tr AV) (m:Mem) (o:Oper) (mask:Nat) (r:Rec) (a:AV) (m':Mem):Prop where
 lo:r.lo=m.c
 hi:r.hi=m'.c
 c:m.c<=m'.c
 bf:r.still=false∨r.wr≠[]->r.bf=m.h
 wrlt:∀ x∈r.wr,x<m.c
 at_:∀ x,¬r.tch x->m'.h.get x=m.h.get x
 d:∀ x,x∈m'.d↔x∈r.wr∨x∈m.d
 was:(wantA n all env o=some false/\a = .tu []/\m'=m/\r.wr=[]/\r.sub = .lf) ∨
  (wantA n all env o=some true/\((QiU o.op=true/\m'=m/\r.wr=[]/\r.still=true/\(∃ ns,r.sub=subA C n env o.op m.h (unA recs mask) ns)/\∃ m'',anyA C n env ⟨r.sub,m.c,[]⟩ cf yf o.op=some [(a,m'')]) ∨
   (r.sub=seesA n env o.op m.h (unA recs mask)/\r.still=false/\∃ m'',anyA C n env ⟨r.sub,m.c,[]⟩ cf yf o.op=some [(a,m'')]/\m''.c=m'.c/\(∀ x,x<m.c->(x∈m''.d↔x∈r.wr))/\(∀ x,r.tch x->m'.h.get x=m''.h.get x)/\(∀ x∈r.wr,(∃ b,r.sub.get x=some b)/\∃ b,m''.h.get x=some b) /\
    ∀ u∈unA recs mask,∀ x∈r.wr,∀ a,u.sub.get x=some a->u.still=true/\∃ b,m''.h.get x=some b/\Wk a b)))
section
variable {C:Cfg} {n:Nat} {cf yf:Nat->List AV->Mem->RL} {all:List Oper} {recs:List Rec} {env:Tr AV} {m m':Mem} {o:Oper} {mask:Nat} {r:Rec} {a:AV}
theorem Qlz {l:List (AV × Mem)} {r:AV × Mem} (h:Qtb l=some r):l=[r]:=by
 unfold Qtb at h
 split at h
 ·cases h;rfl
 ·cases h
theorem Qjz {α:Type} {o:Option α} (h:o.isSome=true):∃ b,o=some b:=by
 cases o with
 | none=>cases h
 | some b=>exact ⟨b,rfl⟩
theorem Qma (hcm:∀ {op:Op} {env:Tr AV} {m:Mem} {outs:List (AV × Mem)},anyA C n env m cf yf op=some outs->Cm m outs) (h:stepA C n cf yf all recs env m (o,mask)=some (r,a,m')):StepF C n cf yf all recs env m o mask r a m':=by
 unfold stepA at h
 obtain ⟨w,hw,h1⟩:=bind_some h
 clear h
 cases w with
 | false =>
  cases h1
  exact ⟨rfl,rfl,Nat.le_refl _,fun h=>by rcases h with h|h;cases h;exact absurd rfl h,by simp,fun _ _=>rfl,by simp,.inl ⟨hw,rfl,rfl,rfl,rfl⟩⟩
 | true =>
  rw [cond_true] at h1
  cases hs:QiU o.op with
  | true =>
   have h2:((needA n env o.op).bind fun ns=>((anyA C n env ⟨subA C n env o.op m.h (unA recs mask) ns,m.c,[]⟩ cf yf o.op).bind Qtb).bind fun a =>
    some ((⟨mask,true,subA C n env o.op m.h (unA recs mask) ns,[],m.c,m.c,m.h⟩:Rec),a.1,m))=some (r,a,m'):=by
    rw [hs] at h1;exact h1
   clear h1
   obtain ⟨ns,hns,h3⟩:=bind_some h2
   clear h2
   obtain ⟨q,hq,h4⟩:=bind_some h3
   clear h3
   obtain ⟨l,hl,hq⟩:=bind_some hq
   have:=Qlz hq
   subst this
   cases h4
   exact ⟨rfl,rfl,Nat.le_refl _,fun _=>rfl,by simp,fun _ _=>rfl,by simp,.inr ⟨hw,.inl ⟨hs,rfl,rfl,rfl,⟨ns,rfl⟩,q.2,hl⟩⟩⟩
  | false =>
   have h2:(((anyA C n env ⟨seesA n env o.op m.h (unA recs mask),m.c,[]⟩ cf yf o.op).bind Qtb).bind fun r =>
    cond (okW (unA recs mask) (seesA n env o.op m.h (unA recs mask)) (r.2.d.filter (fun x=>Nat.blt x m.c)) r.2.h)
     (some ((⟨mask,false,seesA n env o.op m.h (unA recs mask),r.2.d.filter (fun x=>Nat.blt x m.c),m.c,r.2.c,m.h⟩:Rec),r.1,
      (⟨backA m.h r.2.h (r.2.d.filter (fun x=>Nat.blt x m.c)) m.c (r.2.c-m.c),r.2.c,r.2.d.filter (fun x=>Nat.blt x m.c)++m.d⟩:Mem))) none)=some (r,a,m'):=by
    rw [hs] at h1;exact h1
   clear h1
   obtain ⟨q,hq,h3⟩:=bind_some h2
   clear h2
   obtain ⟨l,hl,hq⟩:=bind_some hq
   have:=Qlz hq
   subst this
   obtain ⟨hok,h4⟩:=Qbc.1 h3
   clear h3
   cases h4
   have hc:m.c<=q.2.c:=(hcm hl).2 q (by simp)
   unfold okW at hok
   rw [Bool.and_eq_true,List.all_eq_true,List.all_eq_true] at hok
   obtain ⟨ok1,ok2⟩:=hok
   have hmem:∀ x,x∈q.2.d.filter (fun x=>Nat.blt x m.c)↔x∈q.2.d/\x<m.c:=fun x=>by
    rw [List.mem_filter,Qbg,decide_eq_true_iff]
   refine ⟨rfl,rfl,hc,fun _=>rfl,fun x hx=>((hmem x).1 hx).2,fun x hx=>?_,fun x=>by simp [List.mem_append],.inr ⟨hw,.inr ⟨rfl,rfl,q.2,hl,rfl,fun x hx=>?_,fun x hx=>?_,fun x hx=>?_,fun u hu x hx a0 ha0=>?_⟩⟩⟩
   ·show (backA _ _ _ _ _).get x=_
    rw [QlE,if_neg]
    rintro (h|h)
    ·exact hx (.inr ⟨h.1,by show x<q.2.c;omega⟩)
    ·exact hx (.inl h)
   ·exact ⟨fun h=>(hmem x).2 ⟨h,hx⟩,fun h=>((hmem x).1 h).1⟩
   ·show (backA _ _ _ _ _).get x=_
    rw [QlE,if_pos]
    rcases hx with h|h
    ·exact .inr h
    ·exact .inl ⟨h.1,by have:x<q.2.c:=h.2;omega⟩
   ·have:=ok1 x hx
    rw [Bool.and_eq_true] at this
    exact ⟨Qjz this.1,Qjz this.2⟩
   ·have h5:=ok2 u hu
    rw [List.all_eq_true] at h5
    have h6:=h5 x hx
    rw [ha0] at h6
    rw [Bool.and_eq_true] at h6
    refine ⟨h6.1,?_⟩
    have h7:=h6.2
    split at h7
    ·rename_i b hb
     exact ⟨b,hb,QuE h7⟩
    ·cases h7
structure Trc (C:Cfg) (n:Nat) (cf yf:Nat->List AV->Mem->RL) (all:List Oper) (l:List (Oper × Nat)) (recs:List Rec) (env env':Tr AV) (m m':Mem) (R:Nat->Rec) (A:Nat->AV) (E:Nat->Tr AV) (K:Nat->Mem):Prop where
 e0:E 0=env
 k0:K 0=m
 e1:E l.length=env'
 k1:K l.length=m'
 st:∀ j q,l[j]?=some q->stepA C n cf yf all (recs++(List.range j).map R) (E j) (K j) q=some (R j,A j,K (j+1))/\E (j+1)=putO (E j) q.1.dst (A j)
theorem QqG:∀ {l:List (Oper × Nat)} {recs:List Rec} {env env':Tr AV} {m m':Mem},drawA C n cf yf all l recs env m=some (env',m')->∃ R A E K,Trc C n cf yf all l recs env env' m m' R A E K
 | [],recs,env,env',m,m',h=>by
  cases h
  exact ⟨fun _=>⟨0,true,.lf,[],0,0,.lf⟩,fun _=>.any,fun _=>env,fun _=>m,rfl,rfl,rfl,rfl,fun j q h=>by simp at h⟩
 | q :: l,recs,env,env',m,m',h=>by
  have h:(stepA C n cf yf all recs env m q).bind (fun r=>drawA C n cf yf all l (recs++[r.1]) (putO env q.1.dst r.2.1) r.2.2)=some (env',m'):=h
  obtain ⟨⟨r,a,m1⟩,h1,h2⟩:=bind_some h
  obtain ⟨R,A,E,K,t⟩:=QqG (l:=l) h2
  refine ⟨fun j=>match j with|0=>r|j+1=>R j,fun j=>match j with|0=>a|j+1=>A j,fun j=>match j with|0=>env|j+1=>E j,fun j=>match j with|0=>m|j+1=>K j,rfl,rfl,t.e1,t.k1,fun j p hj=>?_⟩
  cases j with
  | zero =>
   simp at hj
   subst hj
   refine ⟨?_,t.e0⟩
   show stepA C n cf yf all (recs++[]) env m q=some (r,a,K 0)
   rw [List.append_nil,t.k0]
   exact h1
  | succ j =>
   have:=t.st j p (by simpa using hj)
   rw [List.range_succ_eq_map,List.map_cons,List.map_map]
   rw [List.append_assoc] at this
   exact this
end
theorem QcP:∀ (l:List Oper) (acc:List Nat),(masksA l acc).length=acc.length+l.length
 | [],acc=>rfl
 | o :: l,acc=>by
  have:masksA (o :: l) acc=masksA l (acc++[(Qig o).foldl (fun s j=>Nat.lor s (Nat.lor (Nat.pow 2 j) (acc.getD j 0))) 0]):=rfl
  rw [this,QcP l]
  simp;omega
theorem QgI:∀ (l:List Oper) (acc:List Nat) (j:Nat),j<acc.length->(masksA l acc)[j]?=acc[j]?
 | [],acc,j,_=>rfl
 | o :: l,acc,j,hj=>by
  have:masksA (o :: l) acc=masksA l (acc++[(Qig o).foldl (fun s j=>Nat.lor s (Nat.lor (Nat.pow 2 j) (acc.getD j 0))) 0]):=rfl
  rw [this,QgI l _ j (by simp;omega),List.getElem?_append_left hj]
theorem Qls:∀ (l:List Oper) (acc:List Nat) (j:Nat) (o:Oper),l[j]?=some o->(masksA l acc)[acc.length+j]?=some ((Qig o).foldl (fun s k=>Nat.lor s (Nat.lor (Nat.pow 2 k) (((masksA l acc).take (acc.length+j)).getD k 0))) 0)
 | [],_,_,_,h=>by simp at h
 | o' :: l,acc,j,o,h=>by
  have e:masksA (o' :: l) acc=masksA l (acc++[(Qig o').foldl (fun s j=>Nat.lor s (Nat.lor (Nat.pow 2 j) (acc.getD j 0))) 0]):=rfl
  cases j with
  | zero =>
   simp at h;subst h
   rw [e,Nat.add_zero,QgI l _ _ (by simp)]
   rw [List.getElem?_append_right (Nat.le_refl _)]
   simp only [Nat.sub_self,List.getElem?_cons_zero]
   congr 2
   funext s k
   congr 2
   have:∀ q,(masksA l (acc++[q])).take acc.length=acc:=fun q=>by
    apply List.ext_getElem?
    intro i
    rw [List.getElem?_take]
    by_cases hi:i<acc.length
    ·rw [if_pos hi,QgI l _ i (by simp;omega),List.getElem?_append_left hi]
    ·rw [if_neg hi,List.getElem?_eq_none (by omega)]
   rw [this]
  | succ j =>
   have:=Qls l (acc++[(Qig o').foldl (fun s j=>Nat.lor s (Nat.lor (Nat.pow 2 j) (acc.getD j 0))) 0]) j o (by simpa using h)
   rw [e]
   rw [QQ7,List.length_singleton,show acc.length+1+j=acc.length+(j+1) by omega] at this
   exact this
theorem Qlf (f:Nat->Nat) (j:Nat):∀ (d:List Nat) (s:Nat),(d.foldl (fun s k=>Nat.lor s (Nat.lor (Nat.pow 2 k) (f k))) s).testBit j=true->s.testBit j=true∨∃ k∈d,j=k∨(f k).testBit j=true
 | [],s,h=>.inl h
 | k :: d,s,h=>by
  rcases Qlf f j d _ h with h|⟨x,hx,h⟩
  ·have h:(s ||| (2 ^ k ||| f k)).testBit j=true:=h
   rw [Nat.testBit_or,Nat.testBit_or,Bool.or_eq_true,Bool.or_eq_true] at h
   rcases h with h|h|h
   ·exact .inl h
   ·rw [Nat.testBit_two_pow] at h
    exact .inr ⟨k,by simp,.inl (QQ1 h).symm⟩
   ·exact .inr ⟨k,by simp,.inr h⟩
  ·exact .inr ⟨x,by simp [hx],h⟩
theorem Qe4 {l:List Oper} {D:Nat->Bool} (hdc:∀ j o',l[j]?=some o'->D j=true->∀ k∈deps o',D k=true):∀ (i:Nat) (o:Oper) (mask:Nat),l[i]?=some o->(masksA l [])[i]?=some mask->(∀ k∈deps o,D k=true)->∀ j,mask.testBit j=true->D j=true:=by
 intro i
 induction i using Nat.strongRecOn with
 | _ i ih =>
  intro o mask ho hm hd j hj
  have h:=Qls l [] i o ho
  simp only [List.length_nil,Nat.zero_add] at h
  rw [hm] at h
  cases h
  rcases Qlf _ j _ _ hj with h|⟨k,hk,h⟩
  ·simp at h
  ·have hDk:=hd k hk
   rcases h with rfl|h
   ·exact hDk
   ·rw [List.getD_eq_getElem?_getD,List.getElem?_take] at h
    by_cases hki:k<i
    ·rw [if_pos hki] at h
     cases hk2:(masksA l [])[k]? with
     | none=>rw [hk2] at h;simp at h
     | some mk =>
      rw [hk2] at h
      have hkl:k<l.length:=by have:=Qav hk2;rw [QcP] at this;simpa using this
      exact ih k hki l[k] mk (List.getElem?_eq_getElem hkl) hk2 (hdc k l[k] (List.getElem?_eq_getElem hkl) hDk) j h
    ·rw [if_neg hki] at h;simp at h
structure RegK (l:List Oper):Prop where
 rise:rising l=true
 tmp:∀ (i:Nat) (o:Oper) (mask:Nat),l[i]?=some o->(masksA l [])[i]?=some mask->∀ t,(.tmp t)∈o.op.operands.toList->∀ j p,l[j]?=some p->p.dst=some t->(j<i/\mask.testBit j=true)∨(i<j/\∀ mask',(masksA l [])[j]?=some mask'->mask'.testBit i=true)
 guard:∀ (i:Nat) (o:Oper) (mask:Nat),l[i]?=some o->(masksA l [])[i]?=some mask->∀ j t,o.guard=some (j,t)->j<i/\mask.testBit j=true
 nd:∀ (i j:Nat) (o p:Oper) (t:Nat),l[i]?=some o->l[j]?=some p->o.dst=some t->p.dst=some t->i=j
theorem Qkc:∀ {l:List Oper} {i:Nat} {t T:Tr Nat},dstT l i t=some T->(∀ x y,t.get x=some y->T.get x=some y)/\(∀ j p d,l[j]?=some p->p.dst=some d->T.get d=some (i+j)/\t.get d=none)
 | [],i,t,T,h=>by cases h;exact ⟨fun _ _ h=>h,fun j p d h=>by simp at h⟩
 | o :: l,i,t,T,h=>by
  have h:(match o.dst with
   | none=>dstT l (Nat.succ i) t
   | some d=>(match t.get d with|none=>dstT l (Nat.succ i) (t.put d (some i))|some _=>none))=some T:=h
  split at h
  ·rename_i ho
   obtain ⟨h1,h2⟩:=Qkc h
   refine ⟨h1,fun j p d hj hp=>?_⟩
   cases j with
   | zero=>simp at hj;subst hj;rw [ho] at hp;cases hp
   | succ j =>
    have:=h2 j p d (by simpa using hj) hp
    rw [show i+(j+1)=Nat.succ i+j by omega];exact this
  ·rename_i d0 ho
   split at h
   ·rename_i ht
    obtain ⟨h1,h2⟩:=Qkc h
    refine ⟨fun x y hx=>h1 x y ?_,fun j p d hj hp=>?_⟩
    ·rw [Tr.get_put,if_neg]
     ·exact hx
     ·intro e;subst e;rw [ht] at hx;cases hx
    ·cases j with
     | zero =>
      simp at hj;subst hj;rw [ho] at hp;cases hp
      exact ⟨h1 _ _ (by rw [Tr.get_put,if_pos rfl];rfl),ht⟩
     | succ j =>
      obtain ⟨q1,q2⟩:=h2 j p d (by simpa using hj) hp
      rw [show i+(j+1)=Nat.succ i+j by omega]
      refine ⟨q1,?_⟩
      rw [Tr.get_put] at q2
      split at q2
      ·cases q2
      ·exact q2
   ·cases h
theorem QmN {T:Tr Nat} {ms:List Nat}:∀ {l:List (Oper × Nat)} {i:Nat},regA T ms l i=true->∀ j q,l[j]?=some q->((Qig q.1).all (fun d=>Nat.blt d (i+j))&&tmpsA T ms q.2 (i+j) q.1.op.operands.toList&&(match q.1.guard with|none=>true|some (k,_)=>Nat.blt k (i+j)&&Nat.testBit q.2 k))=true
 | [],_,_,j,q,h=>by simp at h
 | q0 :: l,i,h,j,q,hj=>by
  have h:((Qig q0.1).all (fun d=>Nat.blt d i)&&tmpsA T ms q0.2 i q0.1.op.operands.toList&&(match q0.1.guard with|none=>true|some (k,_)=>Nat.blt k i&&Nat.testBit q0.2 k)&&regA T ms l (Nat.succ i))=true:=h
  rw [Bool.and_eq_true] at h
  cases j with
  | zero=>simp at hj;subst hj;exact h.1
  | succ j =>
   have:=QmN h.2 j q (by simpa using hj)
   rw [show i+(j+1)=Nat.succ i+j by omega]
   exact this
theorem Qwp {l:List Oper} {T:Tr Nat} (hT:dstT l 0 .lf=some T) (h:regA T (masksA l []) (l.zip (masksA l [])) 0=true):RegK l:=by
 obtain ⟨_,t2⟩:=Qkc hT
 have hz:∀ i o mask,l[i]?=some o->(masksA l [])[i]?=some mask->(l.zip (masksA l []))[i]?=some (o,mask):=fun i o mask h1 h2=>by
  rw [List.getElem?_zip_eq_some];exact ⟨h1,h2⟩
 have hat:∀ i o mask,l[i]?=some o->(masksA l [])[i]?=some mask->_:=fun i o mask h1 h2=>QmN h i (o,mask) (hz i o mask h1 h2)
 have hmk:∀ {i:Nat} {o:Oper},l[i]?=some o->∃ mask,(masksA l [])[i]?=some mask:=fun {i o} ho=>by
  have:i<(masksA l []).length:=by rw [QcP];simpa using Qav ho
  exact ⟨_,List.getElem?_eq_getElem this⟩
 refine ⟨?_,?_,?_,?_⟩
 ·unfold rising
  rw [List.all_eq_true]
  rintro ⟨o,i⟩ hi
  have ho:l[i]?=some o:=List.mem_zipIdx_iff_getElem?.1 hi
  obtain ⟨mask,hm⟩:=hmk ho
  have:=hat i o mask ho hm
  rw [Bool.and_eq_true,Bool.and_eq_true,Nat.zero_add] at this
  exact this.1.1
 ·intro i o mask ho hm t ht j p hj hp
  have:=hat i o mask ho hm
  rw [Bool.and_eq_true,Bool.and_eq_true,Nat.zero_add] at this
  have h2:=this.1.2
  unfold tmpsA at h2
  rw [List.all_eq_true] at h2
  have h3:=h2 _ ht
  have h4:=(t2 j p t hj hp).1
  rw [Nat.zero_add] at h4
  dsimp only at h3
  rw [h4] at h3
  dsimp only at h3
  by_cases hji:j<i
  ·left
   rw [Qbg,QQ3 hji,cond_true] at h3
   exact ⟨hji,h3⟩
  ·right
   rw [Qbg,QQ4 hji,cond_false,Bool.and_eq_true,Qbg,decide_eq_true_iff] at h3
   refine ⟨h3.1,fun mask' hm'=>?_⟩
   have:=h3.2
   rw [List.getD_eq_getElem?_getD,hm'] at this
   exact this
 ·intro i o mask ho hm j t hg
  have:=hat i o mask ho hm
  rw [Bool.and_eq_true,Bool.and_eq_true,Nat.zero_add] at this
  have h2:=this.2
  dsimp only at h2
  rw [hg] at h2
  dsimp only at h2
  rw [Bool.and_eq_true,Qbg,decide_eq_true_iff] at h2
  exact h2
 ·intro i j o p t hi hj ho hp
  have h1:=(t2 i o t hi ho).1
  have h2:=(t2 j p t hj hp).1
  rw [h1] at h2
  simpa using h2
end Go.Ce
namespace Go.Ce
open Go.RowKit Go.Vx
variable [Tok]
structure TrF (C:Cfg) (n:Nat) (cf yf:Nat->List AV->Mem->RL) (l:List Oper) (R:Nat->Rec) (A:Nat->AV) (E:Nat->Tr AV) (K:Nat->Mem):Prop where
 reg:RegK l
 st:∀ j o mask,l[j]?=some o->(masksA l [])[j]?=some mask->StepF C n cf yf l ((List.range j).map R) (E j) (K j) o mask (R j) (A j) (K (j+1))
 e:∀ j o,l[j]?=some o->E (j+1)=putO (E j) o.dst (A j)
theorem Qrd {C:Cfg} {n:Nat} {cf yf:Nat->List AV->Mem->RL} {l:List Oper} {env env':Tr AV} {m m':Mem} (hcm:∀ {op:Op} {env:Tr AV} {m:Mem} {outs:List (AV × Mem)},anyA C n env m cf yf op=some outs->Cm m outs) (h:drawR C n cf yf l env m=some (env',m')) :
  ∃ R A E K,TrF C n cf yf l R A E K/\E 0=env/\K 0=m/\E l.length=env'/\K l.length=m':=by
 unfold drawR at h
 obtain ⟨h1,h2⟩:=Qbc.1 h
 clear h
 have hlen:(l.zip (masksA l [])).length=l.length:=by rw [List.length_zip,QcP];simp
 split at h1
 ·rename_i T hT
  have reg:=Qwp hT h1
  obtain ⟨R,A,E,K,t⟩:=QqG h2
  refine ⟨R,A,E,K,⟨reg,fun j o mask ho hm=>?_,fun j o ho=>?_⟩,t.e0,t.k0,hlen ▸ t.e1,hlen ▸ t.k1⟩
  ·exact Qma hcm (t.st j (o,mask) (by rw [List.getElem?_zip_eq_some];exact ⟨ho,hm⟩)).1
  ·have hml:j<(masksA l []).length:=by rw [QcP];simpa using Qav ho
   exact (t.st j (o,_) (by rw [List.getElem?_zip_eq_some];exact ⟨ho,List.getElem?_eq_getElem hml⟩)).2
 ·cases h1
open Classical in
noncomputable def hpK (R:Nat->Rec) (K:Nat->Mem) (D:Nat->Bool):Nat->Hp
 | 0=>(K 0).h.get
 | k+1=>fun x=>if D k=true/\(R k).tch x then (K (k+1)).h.get x else hpK R K D k x
section
variable {C:Cfg} {n:Nat} {cf yf:Nat->List AV->Mem->RL} {l:List Oper} {R:Nat->Rec} {A:Nat->AV} {E:Nat->Tr AV} {K:Nat->Mem} (T:TrF C n cf yf l R A E K) {D:Nat->Bool} {hi:Nat} {σ:Sig} {fr:Nat->Res}
theorem QfJ {k x:Nat} (h1:D k=true) (h2:(R k).tch x):hpK R K D (k+1) x=(K (k+1)).h.get x:=by
 unfold hpK;rw [if_pos ⟨h1,h2⟩]
theorem Qe8 {k x:Nat} (h2:¬(D k=true/\(R k).tch x)):hpK R K D (k+1) x=hpK R K D k x:=by
 conv=>lhs;unfold hpK
 rw [if_neg h2]
theorem QkQ {D':Nat->Bool}:∀ k,(∀ j,j<k->D j=D' j)->hpK R K D k=hpK R K D' k
 | 0,_=>rfl
 | k+1,h=>by
  funext x
  have ih:=QkQ k (fun j hj=>h j (by omega))
  by_cases hc:D k=true/\(R k).tch x
  ·rw [QfJ hc.1 hc.2,QfJ (by rw [← h k (by omega)];exact hc.1) hc.2]
  ·rw [Qe8 hc,Qe8 (by rw [← h k (by omega)];exact hc),ih]
include T
theorem QmJ {j:Nat} (hj:j<l.length):∃ o mask,l[j]?=some o/\(masksA l [])[j]?=some mask/\StepF C n cf yf l ((List.range j).map R) (E j) (K j) o mask (R j) (A j) (K (j+1)):=by
 have h2:j<(masksA l []).length:=by rw [QcP];simpa using hj
 exact ⟨_,_,List.getElem?_eq_getElem hj,List.getElem?_eq_getElem h2,T.st j _ _ (List.getElem?_eq_getElem hj) (List.getElem?_eq_getElem h2)⟩
theorem T_c:∀ {k j:Nat},k<=l.length->j<=k->(K j).c<=(K k).c
 | 0,j,_,h=>by
  have:j=0:=by omega
  subst this;exact Nat.le_refl _
 | k+1,j,hk,h=>by
  obtain ⟨_,_,_,_,s⟩:=QmJ T (j:=k) (by omega)
  rcases Nat.lt_or_ge j (k+1) with h1|h1
  ·exact Nat.le_trans (T_c (k:=k) (by omega) (by omega)) s.c
  ·have:j=k+1:=by omega
   subst this;exact Nat.le_refl _
theorem Qmr {j x:Nat} (hj:j<l.length) (h:(R j).tch x):x<(K (j+1)).c:=by
 obtain ⟨_,_,_,_,s⟩:=QmJ T hj
 rcases h with h|h
 ·exact Nat.lt_of_lt_of_le (s.wrlt x h) s.c
 ·rw [← s.hi];exact h.2
theorem T_E:∀ {k:Nat},k<=l.length->∀ {t:Nat} {a:AV},(E k).get t=some a->(∃ j o,j<k/\l[j]?=some o/\o.dst=some t/\a=A j)∨((∀ j o,j<k->l[j]?=some o->o.dst≠some t)/\(E 0).get t=some a)
 | 0,_,t,a,h=>.inr ⟨fun j _ hj=>by omega,h⟩
 | k+1,hk,t,a,h=>by
  have hkl:k<l.length:=by omega
  have hok:=List.getElem?_eq_getElem hkl
  rw [T.e k _ hok] at h
  have prev:(E k).get t=some a->l[k].dst≠some t->(∃ j o,j<k+1/\l[j]?=some o/\o.dst=some t/\a=A j)∨((∀ j o,j<k+1->l[j]?=some o->o.dst≠some t)/\(E 0).get t=some a):=fun h hne=>by
   rcases T_E (k:=k) (by omega) h with ⟨j,o,h1,h2⟩|⟨h1,h2⟩
   ·exact .inl ⟨j,o,by omega,h2⟩
   ·refine .inr ⟨fun j o hj ho=>?_,h2⟩
    rcases Nat.lt_or_ge j k with h3|h3
    ·exact h1 j o h3 ho
    ·have:j=k:=by omega
     subst this
     rw [hok] at ho;cases ho;exact hne
  cases hd:l[k].dst with
  | none =>
   rw [hd] at h
   exact prev h (by rw [hd];simp)
  | some d =>
   rw [hd] at h
   have h2:((E k).put d (some (A k))).get t=some a:=h
   clear h
   rw [Tr.get_put] at h2
   split at h2
   ·rename_i e;subst e;cases h2
    exact .inl ⟨k,_,by omega,hok,hd,rfl⟩
   ·rename_i e
    exact prev h2 (by rw [hd];intro h;cases h;exact e rfl)
theorem QvC:∀ {k:Nat},k<=l.length->∀ {x:Nat},(K k).c<=x->(K k).h.get x=(K 0).h.get x
 | 0,_,_,_=>rfl
 | k+1,hk,x,hx=>by
  obtain ⟨_,_,_,_,s⟩:=QmJ T (j:=k) (by omega)
  rw [s.at_ x (fun h=>by have:=Qmr T (by omega) h;omega)]
  exact QvC (k:=k) (by omega) (Nat.le_trans s.c hx)
theorem Qs3:∀ {k:Nat},k<=l.length->(∀ x,x∈(K 0).d->x∈(K k).d)/\∀ x,x<(K 0).c->x ∉ (K k).d->(K k).h.get x=(K 0).h.get x
 | 0,_=>⟨fun _ h=>h,fun _ _ _=>rfl⟩
 | k+1,hk=>by
  obtain ⟨_,_,_,_,s⟩:=QmJ T (j:=k) (by omega)
  obtain ⟨h1,h2⟩:=Qs3 (k:=k) (by omega)
  refine ⟨fun x hx=>(s.d x).2 (.inr (h1 x hx)),fun x hx hd=>?_⟩
  rw [s.at_ x ?_]
  ·exact h2 x hx fun h=>hd ((s.d x).2 (.inr h))
  ·rintro (h|h)
   ·exact hd ((s.d x).2 (.inl h))
   ·have:=T_c T (k:=k) (j:=0) (by omega) (by omega)
    rw [s.lo] at h
    omega
theorem QvH:MLe (K 0) (K l.length) :=
 ⟨T_c T (Nat.le_refl _) (Nat.zero_le _),(Qs3 T (Nat.le_refl _)).1,fun _ hx=>QvC T (Nat.le_refl _) hx,(Qs3 T (Nat.le_refl _)).2⟩
theorem QqA:∀ {k:Nat},k<=l.length->(∀ j,j<k->D j=true)->hpK R K D k=(K k).h.get
 | 0,_,_=>rfl
 | k+1,hk,hD=>by
  funext x
  obtain ⟨_,_,_,_,s⟩:=QmJ T (j:=k) (by omega)
  by_cases hc:(R k).tch x
  ·rw [QfJ (hD k (by omega)) hc]
  ·rw [Qe8 (fun h=>hc h.2),QqA (k:=k) (by omega) (fun j hj=>hD j (by omega)),s.at_ x hc]
theorem QrX {i mask:Nat} (hm:∀ j,mask.testBit j=true->D j=true) (x:Nat):∀ {k:Nat},k<=i->i<=l.length->hpK R K D k x=(K k).h.get x∨∃ j,j<k/\mask.testBit j=false/\(R j).tch x/\hpK R K D k x=(K j).h.get x
 | 0,_,_=>.inl rfl
 | k+1,hk,hil=>by
  obtain ⟨_,_,_,_,s⟩:=QmJ T (j:=k) (by omega)
  have ih:=QrX (k:=k) hm x (by omega) hil
  by_cases hD:D k=true
  ·by_cases hc:(R k).tch x
   ·exact .inl (QfJ hD hc)
   ·rw [Qe8 (fun h=>hc h.2)]
    rcases ih with h|⟨j,h1,h2⟩
    ·rw [h,s.at_ x hc];exact .inl rfl
    ·exact .inr ⟨j,by omega,h2⟩
  ·rw [Qe8 (fun h=>hD h.1)]
   rcases ih with h|⟨j,h1,h2⟩
   ·by_cases hc:(R k).tch x
    ·refine .inr ⟨k,by omega,?_,hc,h⟩
     cases hb:mask.testBit k with
     | false=>rfl
     | true=>exact absurd (hm k hb) hD
    ·rw [h,s.at_ x hc];exact .inl rfl
   ·exact .inr ⟨j,by omega,h2⟩
omit T in
theorem QuX {i k mask:Nat} (hik:i<k) (hb:mask.testBit i=false):R i∈unA ((List.range k).map R) mask :=
 Quu (j:=i) (by rw [List.getElem?_map,List.getElem?_range hik];rfl) hb
variable (hdc:∀ j o',l[j]?=some o'->D j=true->∀ k∈deps o',D k=true) {i:Nat} (hil:i<l.length) (hDi:D i=false)
include hdc hDi
omit T in
theorem Qtw {k:Nat} (hik:i<k) (hkl:k<l.length) (hDk:D k=true) {mask:Nat} (hm:(masksA l [])[k]?=some mask):mask.testBit i=false:=by
 cases hb:mask.testBit i with
 | false=>rfl
 | true =>
  have:=Qe4 hdc k l[k] mask (List.getElem?_eq_getElem hkl) hm (hdc k _ (List.getElem?_eq_getElem hkl) hDk) i hb
  rw [hDi] at this;cases this
include hil
theorem Qoy {k x:Nat} (hik:i<k) (hkl:k<l.length) (hDk:D k=true) (hx:(R i).tch x):¬(R k).tch x:=by
 obtain ⟨o,mask,ho,hm,s⟩:=QmJ T hkl
 have hb:=Qtw hdc hDi hik hkl hDk hm
 have hu:=QuX (R:=R) (k:=k) hik hb
 have hlt:x<(K k).c:=Nat.lt_of_lt_of_le (Qmr T hil hx) (T_c T (by omega) (by omega))
 have hnew:¬((R k).lo<=x/\x<(R k).hi):=fun h=>by rw [s.lo] at h;omega
 rintro (h|h)
 ·rcases s.was with ⟨_,_,_,h1,_⟩|⟨_,⟨_,_,h1,_⟩|⟨h1,_,m'',_,_,_,_,h2,_⟩⟩
  ·rw [h1] at h;cases h
  ·rw [h1] at h;cases h
  ·obtain ⟨⟨b,hb'⟩,_⟩:=h2 x h
   rw [h1] at hb'
   exact (QlL hb').2 _ hu hx
 ·exact hnew h
theorem QqN {x:Nat} (hfr:∀ x,(K 0).c<=x->x<hi->(K 0).h.get x=none) (hhi:(K l.length).c<=hi) (h1:(K i).c<=x) (h2:x<(K (i+1)).c):∀ {k:Nat},k<=l.length->hpK R K D k x=none
 | 0,_=>hfr x (Nat.le_trans (T_c T (k:=i) (j:=0) (by omega) (by omega)) h1) (Nat.lt_of_lt_of_le h2 (Nat.le_trans (T_c T (k:=l.length) (j:=i+1) (by omega) (by omega)) hhi))
 | k+1,hk=>by
  rw [Qe8,QqN hfr hhi h1 h2 (k:=k) (by omega)]
  rintro ⟨hDk,hc⟩
  obtain ⟨_,_,_,_,s⟩:=QmJ T (j:=i) hil
  rcases Nat.lt_trichotomy k i with h|h|h
  ·have:=Qmr T (by omega) hc
   have:=T_c T (k:=i) (j:=k+1) (by omega) (by omega)
   omega
  ·subst h;rw [hDi] at hDk;cases hDk
  ·exact Qoy T hdc hil hDi h (by omega) hDk (.inr ⟨by rw [s.lo];exact h1,by rw [s.hi];exact h2⟩) hc
theorem QnQ {x:Nat} (hx:(R i).tch x):∀ {k:Nat},i<k->k<=l.length->hpK R K (Go.Vx.mark D i) k x=(K (i+1)).h.get x
 | 0,h,_=>by omega
 | k+1,h,hk=>by
  rcases Nat.lt_or_ge i k with h1|h1
  ·rw [Qe8,QnQ hx (k:=k) h1 (by omega)]
   rintro ⟨h2,h3⟩
   have h2:D k=true:=by
    unfold Go.Vx.mark at h2
    rw [QbT] at h2
    have hne:¬k=i:=by omega
    simpa [hne] using h2
   exact Qoy T hdc hil hDi h1 (by omega) h2 hx h3
  ·have:k=i:=by omega
   subst this
   rw [QfJ (by unfold Go.Vx.mark;simp) hx]
omit hil hdc in
theorem Qj0 {x:Nat} (hx:¬(R i).tch x):∀ {k:Nat},k<=l.length->hpK R K (Go.Vx.mark D i) k x=hpK R K D k x
 | 0,_=>rfl
 | k+1,hk=>by
  have ih:=Qj0 hx (k:=k) (by omega)
  by_cases hki:k=i
  ·subst hki
   rw [Qe8 (fun h=>hx h.2),Qe8 (fun h=>hx h.2),ih]
  ·have e:Go.Vx.mark D i k=D k:=by unfold Go.Vx.mark;rw [QbT];simp [hki]
   by_cases hc:D k=true/\(R k).tch x
   ·rw [QfJ (by rw [e];exact hc.1) hc.2,QfJ hc.1 hc.2]
   ·rw [Qe8 (by rw [e];exact hc),Qe8 hc,ih]
variable {o:Oper} {mask:Nat} (ho:l[i]?=some o) (hm:(masksA l [])[i]?=some mask) (hd:∀ k∈deps o,D k=true)
include ho hm hd
theorem QrI (hfr:∀ x,(K 0).c<=x->x<hi->(K 0).h.get x=none) (hhi:(K l.length).c<=hi) {x:Nat} {a:AB} (ha:(R i).sub.get x=some a):∃ c,hpK R K D l.length x=some c/\Wk a c/\((R i).still=false->a=c):=by
 have hmd:=Qe4 hdc i o mask ho hm hd
 have s:=T.st i o mask ho hm
 have h0:(∃ c,hpK R K D i x=some c/\Wk a c/\((R i).still=false->a=c))/\∃ b,(K i).h.get x=some b:=by
  have still:∀ ns,(R i).sub=subA C n (E i) o.op (K i).h (unA ((List.range i).map R) mask) ns->(R i).still=true->(∃ c,hpK R K D i x=some c/\Wk a c/\((R i).still=false->a=c))/\∃ b,(K i).h.get x=some b:=fun ns hs hst=>by
   rw [hs] at ha
   obtain ⟨b,h1,h2,h3⟩:=Qsd ha
   refine ⟨?_,b,h1⟩
   rcases QrX T hmd x (Nat.le_refl i) (by omega) with h|⟨j,h4,h5,h6,h7⟩
   ·exact ⟨b,h.trans h1,h2,fun h=>by rw [hst] at h;cases h⟩
   ·obtain ⟨h8,h9⟩:=h3 _ (QuX h4 h5)
    rcases h6 with h6|h6
    ·obtain ⟨c,h10,h11⟩:=h9 h6
     obtain ⟨_,_,_,_,sj⟩:=QmJ T (j:=j) (by omega)
     rw [sj.bf (.inr (by intro e;rw [e] at h6;cases h6))] at h10
     exact ⟨c,h7.trans h10,h11,fun h=>by rw [hst] at h;cases h⟩
    ·exact absurd h6 h8
  rcases s.was with ⟨_,_,_,_,h1⟩|⟨_,⟨_,_,_,hst,⟨ns,h1⟩,_⟩|⟨h1,h2,_⟩⟩
  ·rw [h1,Tr.get_lf] at ha;cases ha
  ·exact still ns h1 hst
  ·have ha':=ha
   rw [h1] at ha'
   obtain ⟨h3,h4⟩:=QlL ha'
   refine ⟨?_,a,h3⟩
   rcases QrX T hmd x (Nat.le_refl i) (by omega) with h|⟨j,h5,h6,h7,h8⟩
   ·exact ⟨a,h.trans h3,Wk.refl _,fun _=>rfl⟩
   ·exact absurd h7 (h4 _ (QuX h5 h6))
 obtain ⟨h0,b0,hb0⟩:=h0
 have hxlt:x<hi->x<(K i).c:=fun hx=>by
  rcases Nat.lt_or_ge x (K i).c with h|h
  ·exact h
  ·rw [QvC T (k:=i) (by omega) h,hfr x (Nat.le_trans (T_c T (k:=i) (j:=0) (by omega) (by omega)) h) hx] at hb0
   cases hb0
 have key:∀ k,i<=k->k<=l.length->∃ c,hpK R K D k x=some c/\Wk a c/\((R i).still=false->a=c):=by
  intro k hk
  induction k with
  | zero =>
   intro _
   have:i=0:=by omega
   subst this;exact h0
  | succ k ih =>
   intro hkl
   rcases Nat.lt_or_ge k i with h|h
   ·have:i=k+1:=by omega
    subst this;exact h0
   ·have ih:=ih h (by omega)
    by_cases hc:D k=true/\(R k).tch x
    ·have hne:i≠k:=fun e=>by subst e;rw [hDi] at hc;cases hc.1
     have hik:i<k:=by omega
     rw [QfJ hc.1 hc.2]
     obtain ⟨ok,mk,hok,hmk,sk⟩:=QmJ T (j:=k) (by omega)
     have hb:=Qtw hdc hDi hik (by omega) hc.1 hmk
     have hu:=QuX (R:=R) (k:=k) hik hb
     rcases hc.2 with h4|h4
     ·rcases sk.was with ⟨_,_,_,h1,_⟩|⟨_,⟨_,_,h1,_⟩|⟨_,_,m'',_,_,_,h5,_,h6⟩⟩
      ·rw [h1] at h4;cases h4
      ·rw [h1] at h4;cases h4
      ·obtain ⟨h7,b,h8,h9⟩:=h6 _ hu x h4 a ha
       refine ⟨b,(h5 x hc.2).trans h8,h9,fun h=>by rw [h7] at h;cases h⟩
     ·exfalso
      rw [sk.lo,sk.hi] at h4
      have h5:=T_c T (k:=l.length) (j:=k+1) (by omega) (by omega)
      have h6:=hxlt (by omega)
      have h7:=T_c T (k:=k) (j:=i) (by omega) (by omega)
      omega
    ·rw [Qe8 hc];exact ih
 exact key l.length (by omega) (Nat.le_refl _)
end
end Go.Ce
namespace Go.Ce
open Go.RowKit Go.Vx
variable [Tok]
theorem Good.re {B:Nat} {w0:World} {M:Nat->Prop} {σ σ':Sig} {fr fr':Nat->Res} {h h':Hp} {w:World} (hg:Good B w0 M σ fr h w) (hh:∀ x,x<B->∀ S,(Qeq σ fr h x).holds w S->(Qeq σ' fr' h' x).holds w S) (bd:∀ x blk,h' x=some blk->x<B):Good B w0 M σ' fr' h' w:=by
 refine ⟨Own.imp hg.own fun k R' hk=>?_,bd⟩
 obtain ⟨hl',e⟩:=Qg3 hk
 subst e
 exact ⟨_,Qem _ hl',hh k hl'⟩
theorem Qb1 {σ:Sig} {fr:Nat->Res} {h:Hp} {x:Nat} {blk:AB} (e:h x=some blk):Qeq σ fr h x=res σ x blk:=by unfold Qeq;rw [e]
theorem Qce {σ:Sig} {fr:Nat->Res} {h:Hp} {x:Nat} (e:h x=none):Qeq σ fr h x=fr x:=by unfold Qeq;rw [e]
theorem Qpt {n:Nat} {env:Tr AV} {σ:Sig} {all:List Oper} {o:Oper} {J:Env} {q:Bool} (h:wantA n all env o=some q) (hE:∀ j want p d v,o.guard=some (j,want)->all[j]?=some p->p.dst=some d->env.get d=some v->Rel σ v (J d)):Region.wanted o (yielded all.toArray (frd n [] J).tmps)=q:=by
 unfold wantA at h
 unfold Region.wanted
 cases hg:o.guard with
 | none=>rw [hg] at h;cases h;rfl
 | some jw =>
  obtain ⟨j,want⟩:=jw
  rw [hg] at h
  dsimp only at h ⊢
  obtain ⟨q',hq',ha⟩:=bind_some h
  clear h
  obtain ⟨d,hd,h3⟩:=bind_some ha
  clear ha
  obtain ⟨hb,h2⟩:=Qam h3
  clear h3
  obtain ⟨v,hv,h⟩:=bind_some h2
  clear h2
  have hr:=hE j want q' d v hg hq' hd hv
  have hgv:gv n J all j=J d:=by
   unfold gv
   rw [hq',]
   dsimp only
   rw [hd]
   dsimp only
   rw [hb]
   rfl
  rw [Qfu,hgv]
  generalize J d=V at hr
  cases v<;>first|(cases h;done)|skip
  ·cases h;cases hr
   rename_i t
   cases t<;>cases want<;>rfl
  ·cases h;cases hr;rfl
section
variable {C:Cfg} {P:Program} (HC:CfgOk C P) {n:Nat} {env:Tr AV} {m:Mem} {B:Nat} {op:Op} {w0 w:World} {M:Nat->Prop} [Inv w0 M] {σ:Sig} {fr:Nat->Res} {e:Operand->Value} {cf yf:Nat->List AV->Mem->RL}
include HC
theorem QoR {a:AV} {m'':Mem} (h:anyA C n env m cf yf op=some [(a,m'')]) (hs:QiU op=true) (hg:Good B w0 M σ fr m.h.get w) (H:HE n env e σ op.operands.toList):Qba P op e w σ a/\QcD op=true:=by
 unfold QiU at hs
 split at hs
 ·rename_i t x
  obtain ⟨b,h1,h2⟩:=cm1 (show ret1 m (o_load C n env m t x)=some _ from h)
  cases h2
  exact ⟨Qmu HC H hg h1,rfl⟩
 ·rename_i t x y ok
  obtain ⟨b,h1,h2⟩:=cm1 (show ret1 m (o_look C n env m t x y ok)=some _ from h)
  cases h2
  exact ⟨Qq6 HC H hg h1,rfl⟩
 ·rename_i c
  split at hs
  ·rename_i hc
   obtain ⟨callee,args,ts⟩:=c
   dsimp only at hc
   subst hc
   have h0:o_built C n env m .len args ts=some [(a,m'')]:=h
   clear h
   unfold o_built at h0
   obtain ⟨vs,hvs,h⟩:=bind_some h0
   clear h0
   have hr:=Qfn (H.sub fun y hy=>by simp [Op.operands,Call.operands] at hy ⊢;exact hy) hvs
   generalize hvv:args.toList.map e=VV at hr
   split at h
   ·cases hr with|cons r1 t=>?_
    cases t
    have h:(ts.toList.head?.bind (und C)).bind (fun d=>ret1 m (o_len C m _ d))=some [(a,m'')]:=h
    obtain ⟨d,hd,h⟩:=bind_some h
    obtain ⟨b,h1,h2⟩:=cm1 h
    cases h2
    exact ⟨Qt2 HC hvv r1 hd hg h1,rfl⟩
   ·exfalso
    rename_i x y
    have h:(ts.toList.head?.bind (und C)).bind (fun d=>(none:RL))=some [(a,m'')]:=h
    obtain ⟨d,hd,h⟩:=bind_some h
    cases h
   ·cases h
  ·cases hs
 ·cases hs
end
def Qvj (B:Nat) (w0:World) (M:Nat->Prop) (σ:Sig) (fr:Nat->Res) (l:List Oper) (R:Nat->Rec) (A:Nat->AV) (K:Nat->Mem) (J0:Env) (D:Nat->Bool):St:=fun J w =>
 ∃ σ',Le σ σ'/\(∀ x,σ x=none->(∀ j,j<l.length->D j=true->¬((K j).c<=x/\x<(K (j+1)).c))->σ' x=none)/\Good B w0 M σ' fr (hpK R K D l.length) w /\
  ∀ j o d,l[j]?=some o->o.dst=some d->(D j=true->Rel σ' (A j) (J d))/\(D j=false->J d=J0 d)
section
variable {C:Cfg} {P:Program} (HC:CfgOk C P) {n:Nat} {B hi:Nat} {w0:World} {M:Nat->Prop} [Inv w0 M] {σ:Sig} {fr:Nat->Res} {cf yf:Nat->List AV->Mem->RL} {l:List Oper} {R:Nat->Rec} {A:Nat->AV} {E:Nat->Tr AV} {K:Nat->Mem} (T:TrF C n cf yf l R A E K) {J0:Env}
include T
theorem QhB {σ' σ'':Sig} (hl:Le σ' σ'') {D:Nat->Bool} {J:Env} {i:Nat} {o:Oper} (ho:l[i]?=some o) {v:Value} (hv:Rel σ'' (A i) v)
  (h:∀ j o d,l[j]?=some o->o.dst=some d->(D j=true->Rel σ' (A j) (J d))/\(D j=false->J d=J0 d)) :
  ∀ j o' d,l[j]?=some o'->o'.dst=some d->(Go.Vx.mark D i j=true->Rel σ'' (A j) (QdB J o.dst v d))/\(Go.Vx.mark D i j=false->QdB J o.dst v d=J0 d):=by
 intro j o' d hj hd
 by_cases hij:j=i
 ·subst hij
  rw [ho] at hj
  cases hj
  rw [hd]
  refine ⟨fun _=>?_,fun h=>by unfold Go.Vx.mark at h;simp at h⟩
  show Rel σ'' (A j) (upd J d v d)
  rw [QdU,if_pos rfl]
  exact hv
 ·have hm:Go.Vx.mark D i j=D j:=by unfold Go.Vx.mark;rw [QbT];simp [hij]
  have hu:QdB J o.dst v d=J d:=by
   cases hdd:o.dst with
   | none=>rfl
   | some t =>
    show upd J t v d=J d
    rw [QdU,if_neg]
    intro e
    subst e
    exact hij (T.reg.nd j i o' o d hj ho hd hdd)
  rw [hm,hu]
  exact ⟨fun hD=>((h j o' d hj hd).1 hD).mono hl,(h j o' d hj hd).2⟩
include HC
theorem QpO (hcf:QfM P B cf) (hyf:Qg9 P B yf) (hcm:∀ {op:Op} {env:Tr AV} {m:Mem} {outs:List (AV × Mem)},anyA C n env m cf yf op=some outs->Cm m outs) (hE:Qgm σ (E 0) J0) (hG:Gl σ) (hfr:Fresh (K 0).c hi σ fr (K 0).h.get) (hhi:(K l.length).c<=hi) (hB:hi<=B) {i:Nat} {o:Oper} (ho:l[i]?=some o) :
  Qfi P n l J0 (Qvj B w0 M σ fr l R A K J0) i o:=by
 intro D J w hDi hd hdc hf hI
 obtain ⟨σ',hle,hout,hg,hs⟩:=hI
 have hil:=Qav ho
 obtain ⟨o',mask,ho',hm,s⟩:=QmJ T hil
 rw [ho] at ho'
 cases ho'
 have hmd:=Qe4 hdc i o mask ho hm hd
 have hG':=hG.mono hle
 have hfr0:∀ x,(K 0).c<=x->x<hi->(K 0).h.get x=none:=fun x h1 h2=>(hfr x h1 h2).2.2
 have slot:∀ t a,(E i).get t=some a->(∀ j p,l[j]?=some p->p.dst=some t->(j<i/\mask.testBit j=true)∨(i<j/\∀ mask',(masksA l [])[j]?=some mask'->mask'.testBit i=true))->Rel σ' a (J t):=by
  intro t a hta ht
  rcases T_E T (Nat.le_of_lt hil) hta with ⟨j,p,h1,h2,h3,rfl⟩|⟨h1,h2⟩
  ·rcases ht j p h2 h3 with h4|h4
   ·exact (hs j p t h2 h3).1 (hmd j h4.2)
   ·omega
  ·by_cases hx:t∈dsts l
   ·unfold dsts at hx
    obtain ⟨p,hp,hpt⟩:=List.mem_filterMap.1 hx
    obtain ⟨j,hj⟩:=List.mem_iff_getElem?.1 hp
    rcases ht j p hj hpt with h4|⟨h4,h5⟩
    ·exact absurd hpt (h1 j p h4.1 hj)
    ·have hDj:D j=false:=by
      cases hD:D j with
      | false=>rfl
      | true =>
       exfalso
       have hml:j<(masksA l []).length:=by rw [QcP];simpa using Qav hj
       have hmj:=List.getElem?_eq_getElem hml
       have:=Qe4 hdc j p _ hj hmj (hdc j p hj hD) i (h5 _ hmj)
       rw [hDi] at this
       cases this
     rw [(hs j p t hj hpt).2 hDj]
     exact (hE t a h2).mono hle
   ·rw [hf t hx]
    exact (hE t a h2).mono hle
 have H:HE n (E i) (ev n J) σ' o.op.operands.toList:=by
  intro x hx a hxa
  cases x with
  | tmp t =>
   have hxa:cond (Nat.blt t n) ((E i).get t) none=some a:=hxa
   obtain ⟨hb,hxa⟩:=Qbc.1 hxa
   show Rel σ' a (cond (Nat.blt t n) (J t) undef)
   rw [hb]
   exact slot t a hxa fun j p hj hp=>T.reg.tmp i o mask ho hm t hx j p hj hp
  | const v=>exact QeP (env:=.lf) (J:=J) (fun t v h=>by rw [Tr.get_lf] at h;cases h) hG' (x:=.const v) hxa
  | func f=>exact QeP (env:=.lf) (J:=J) (fun t v h=>by rw [Tr.get_lf] at h;cases h) hG' (x:=.func f) hxa
  | global g=>exact QeP (env:=.lf) (J:=J) (fun t v h=>by rw [Tr.get_lf] at h;cases h) hG' (x:=.global g) hxa
 have hw:∀ {q:Bool},wantA n l (E i) o=some q->Region.wanted o (yielded l.toArray (frd n [] J).tmps)=q:=fun {q} hq=>by
  refine Qpt (σ:=σ') hq fun j want p d v hgd hp hpd hv=>?_
  obtain ⟨h1,h2⟩:=T.reg.guard i o mask ho hm j want hgd
  exact slot d v hv fun j' p' hj' hp'=>by
   have:=T.reg.nd j' j p' p d hj' hp hp' hpd
   subst this;exact .inl ⟨h1,h2⟩
 have stay:∀ {v:Value},Rel σ' (A i) v->(R i).wr=[]->K (i+1)=K i->Qvj B w0 M σ fr l R A K J0 (Go.Vx.mark D i) (QdB J o.dst v) w:=by
  intro v hv hwr hK
  refine ⟨σ',hle,fun x hx hj=>hout x hx fun j hjl hDj=>hj j hjl ?_,?_,QhB T (Le.refl _) ho hv hs⟩
  ·unfold Go.Vx.mark;rw [hDj];cases Nat.beq j i<;>rfl
  ·have:hpK R K (Go.Vx.mark D i) l.length=hpK R K D l.length:=by
    funext x
    refine Qj0 T hDi (fun h=>?_) (Nat.le_refl _)
    rcases h with h|h
    ·rw [hwr] at h;cases h
    ·rw [s.lo,s.hi,hK] at h;omega
   rw [this]
   exact hg
 have view:=fun {x:Nat} {a:AB} (ha:(R i).sub.get x=some a)=>QrI T hdc hil hDi ho hm hd (hi:=hi) hfr0 hhi ha
 rcases s.was with ⟨h1,h2,h3,h4,_⟩|⟨h1,⟨h2,h3,h4,_,_,m'',h6⟩|⟨h2,h3,m'',h4,h5,h6,h7,h8,_⟩⟩
 ·refine .inr ⟨hw h1,stay ?_ h4 h3⟩
  rw [h2];exact .tu .nil
 ·refine .inl ⟨hw h1,?_⟩
  have hgw:Good B w0 M σ' (fun x=>Qeq σ' fr (hpK R K D l.length) x) (R i).sub.get w:=by
   refine hg.re (fun x hx S hS=>?_) (fun x blk hb=>?_)
   ·cases hb:(R i).sub.get x with
    | none=>rw [Qce hb];exact hS
    | some a =>
     obtain ⟨c,hc,hwk,_⟩:=view hb
     rw [Qb1 hb]
     rw [Qb1 hc] at hS
     exact hwk _ _ _ _ hS
   ·obtain ⟨c,hc,_⟩:=view hb
    exact hg.bd x c hc
  obtain ⟨⟨V,hV,hX⟩,hnd⟩:=QoR HC (m:=⟨(R i).sub,(K i).c,[]⟩) h6 h2 hgw H
  exact QaO (hX o.type) (stay hV h4 h3) hnd
 ·refine .inl ⟨hw h1,?_⟩
  have hcc:=T_c T (k:=l.length) (j:=i+1) (Nat.le_refl _) hil
  have hc1:=T_c T (k:=i) (j:=0) (Nat.le_of_lt hil) (Nat.zero_le _)
  have hview:∀ {x:Nat} {a:AB},(R i).sub.get x=some a->hpK R K D l.length x=some a:=fun {x a} ha=>by
   obtain ⟨c,hc,_,he⟩:=view ha
   rw [he h3];exact hc
  have hgw:Good B w0 M σ' (fun x=>Qeq σ' fr (hpK R K D l.length) x) (R i).sub.get w:=by
   refine hg.re (fun x hx S hS=>?_) (fun x blk hb=>hg.bd x blk (hview hb))
   cases hb:(R i).sub.get x with
   | none=>rw [Qce hb];exact hS
   | some a =>
    rw [Qb1 hb]
    rw [Qb1 (hview hb)] at hS
    exact hS
  have hnew:∀ x,(K i).c<=x->x<(K (i+1)).c->hpK R K D l.length x=none:=fun x q1 q2=>QqN T hdc hil hDi (hi:=hi) hfr0 hhi q1 q2 (Nat.le_refl _)
  have hσ':∀ x,σ x=none->(K i).c<=x->x<(K (i+1)).c->σ' x=none:=fun x q0 q1 q2=>hout x q0 fun j hj hDj=>by
   rintro ⟨q3,q4⟩
   rcases Nat.lt_trichotomy j i with h|h|h
   ·have:=T_c T (k:=i) (j:=j+1) (Nat.le_of_lt hil) h;omega
   ·subst h;rw [hDi] at hDj;cases hDj
   ·have:=T_c T (k:=j) (j:=i+1) (Nat.le_of_lt hj) h;omega
  have hpre:Pre B w0 M σ' (fun x=>Qeq σ' fr (hpK R K D l.length) x) ⟨(R i).sub,(K i).c,[]⟩ w (K (i+1)).c:=by
   refine ⟨hG',hgw,fun x q1 q2=>?_,Nat.le_trans hcc (Nat.le_trans hhi hB)⟩
   have q1:(K i).c<=x:=q1
   obtain ⟨f1,f2,f3⟩:=hfr x (Nat.le_trans hc1 q1) (by omega)
   refine ⟨hσ' x f1 q1 q2,?_,?_⟩
   ·show Qeq σ' fr (hpK R K D l.length) x=emp
    rw [Qce (hnew x q1 q2)];exact f2
   ·show (R i).sub.get x=none
    cases hb:(R i).sub.get x with
    | none=>rfl
    | some a=>have:=hview hb;rw [hnew x q1 q2] at this;cases this
  refine QcV (QqP HC hcf hyf h4 hpre (fun r hr=>by simp at hr;subst hr;exact Nat.le_of_eq h5) H) fun v w' hK=>?_
  obtain ⟨r,hr,σ'',k1,k2,k3,k4⟩:=hK
  simp at hr
  subst hr
  have k2:SLe (K i).c m''.c σ' σ'':=k2
  rw [h5] at k2
  refine ⟨σ'',hle.trans k2.le,fun x q0 hj=>?_,?_,QhB T k2.le ho k1 hs⟩
  ·refine k2.out x (hout x q0 fun j hjl hDj=>hj j hjl ?_) ?_
   ·unfold Go.Vx.mark;rw [hDj];cases Nat.beq j i<;>rfl
   ·have:=hj i hil (by unfold Go.Vx.mark;simp)
    omega
  ·have tch:∀ x,(R i).tch x->hpK R K (Go.Vx.mark D i) l.length x=m''.h.get x:=fun x hx=>by
    rw [QnQ T hdc hil hDi hx hil (Nat.le_refl _),h7 x hx]
   have ntch:∀ x,¬(R i).tch x->hpK R K (Go.Vx.mark D i) l.length x=hpK R K D l.length x/\m''.h.get x=(R i).sub.get x:=fun x hx=>by
    refine ⟨Qj0 T hDi hx (Nat.le_refl _),?_⟩
    rcases Nat.lt_or_ge x (K i).c with h|h
    ·exact k3.old x h fun hd'=>hx (.inl ((h6 x h).1 hd'))
    ·refine k3.up x ?_
     show m''.c<=x
     rw [h5]
     rcases Nat.lt_or_ge x (K (i+1)).c with h'|h'
     ·exact absurd (.inr ⟨by rw [s.lo];exact h,by rw [s.hi];exact h'⟩) hx
     ·exact h'
   have k4:Good B w0 M σ'' (fun x=>Qeq σ' fr (hpK R K D l.length) x) m''.h.get w':=k4
   refine k4.re (fun x hx S hS=>?_) (fun x blk hb=>?_)
   ·by_cases hc:(R i).tch x
    ·have e:=tch x hc
     cases hb:m''.h.get x with
     | some blk =>
      rw [Qb1 hb] at hS
      rw [Qb1 (e.trans hb)]
      exact hS
     | none =>
      rw [Qce (e.trans hb)]
      rw [Qce hb] at hS
      rcases hc with h|h
      ·obtain ⟨_,b,hb'⟩:=h8 x h
       rw [hb] at hb';cases hb'
      ·rw [s.lo,s.hi] at h
       rw [Qce (hnew x h.1 h.2)] at hS
       exact hS
    ·obtain ⟨e1,e2⟩:=ntch x hc
     cases hb:(R i).sub.get x with
     | some a =>
      rw [Qb1 (e2.trans hb)] at hS
      rw [Qb1 (e1.trans (hview hb))]
      exact hS
     | none =>
      rw [Qce (e2.trans hb)] at hS
      cases hb':hpK R K D l.length x with
      | some blk =>
       rw [Qb1 hb'] at hS
       rw [Qb1 (e1.trans hb')]
       exact QkL k2.le hS
      | none =>
       rw [Qce hb'] at hS
       rw [Qce (e1.trans hb')]
       exact hS
   ·by_cases hc:(R i).tch x
    ·rw [tch x hc] at hb;exact k4.bd x blk hb
    ·rw [(ntch x hc).1] at hb;exact hg.bd x blk hb
end
section
variable {C:Cfg} {P:Program} (HC:CfgOk C P) {B:Nat}
theorem QrF {cf yf:Nat->List AV->Mem->RL} (hcf:Qk8 cf) (hyf:Qk8 yf):Qrj C cf yf:=by
 intro n l env env' m m' h
 obtain ⟨R,A,E,K,T,h1,h2,h3,h4⟩:=Qrd (fun h=>Qnt hcf hyf h) h
 rw [← h2,← h4]
 exact T_c T (Nat.le_refl _) (Nat.zero_le _)
include HC
theorem Qrn {cf yf:Nat->List AV->Mem->RL} (hcf:QfM P B cf) (hyf:Qg9 P B yf) (hcc:Qk8 cf) (hyc:Qk8 yf):Qq0 C P B cf yf:=by
 intro n id ops env env' m m' ds h w0 M _ σ fr w hi J dsv rdv hp hb hE hD
 have hcm:∀ {op:Op} {env:Tr AV} {m:Mem} {outs:List (AV × Mem)},anyA C n env m cf yf op=some outs->Cm m outs:=fun h=>Qnt hcc hyc h
 obtain ⟨R,A,E,K,T,h1,h2,h3,h4⟩:=Qrd hcm h
 subst h1
 subst h2
 subst h3
 subst h4
 have key:W ⟨rdv,dsv⟩ P n (.region id ops.toList.toArray true) (fun J' w'=>QiZ B w0 M fr σ (K 0) [⟨.nm,E ops.toList.length,ds,K ops.toList.length⟩] .nm dsv J' w') (fun _ _=>False) (fun _ _ _=>False) J w:=by
  refine QqF HC.mixed T.reg.rise (Qvj B w0 M σ fr ops.toList R A K J) (fun D D' J w hDD hI=>?_) ?_ (fun i o ho=>QpO HC T hcf hyf hcm hE hp.gl hp.fresh hb hp.hb ho) (fun J' w' hf hI=>?_)
  ·obtain ⟨σ',q1,q2,q3,q4⟩:=hI
   refine ⟨σ',q1,fun x hx hj=>q2 x hx fun j hjl hDj=>hj j hjl (by rw [← hDD j hjl];exact hDj),?_,fun j o d hj hd=>?_⟩
   ·rw [← QkQ _ hDD];exact q3
   ·rw [← hDD j (Qav hj)];exact q4 j o d hj hd
  ·refine ⟨σ,Le.refl _,fun x hx _=>hx,?_,fun j o d _ _=>And.intro (fun h=>Bool.noConfusion h) (fun _=>rfl)⟩
   have:∀ k,hpK R K (fun _=>false) k=(K 0).h.get:=by
    intro k
    induction k with
    | zero=>rfl
    | succ k ih =>
     funext x
     rw [Qe8 (by simp),ih]
   rw [this]
   exact hp.good.drew
  ·obtain ⟨σ',q1,q2,q3,q4⟩:=hI
   rw [QqA T (Nat.le_refl _) (fun _ _=>rfl)] at q3
   refine ⟨_,List.mem_cons_self,rfl,σ',fun t v ht=>?_,hD.mono q1,⟨q1,fun x hx hr=>q2 x hx fun j hj _=>?_⟩,QvH T,q3⟩
   ·have ht:(E ops.toList.length).get t=some v:=ht
    rcases T_E T (Nat.le_refl _) ht with ⟨j,p,_,k2,k3,rfl⟩|⟨k1,k2⟩
    ·exact (q4 j p t k2 k3).1 rfl
    ·rw [hf t fun hx=>by
      unfold dsts at hx
      obtain ⟨p,hp,hpt⟩:=List.mem_filterMap.1 hx
      obtain ⟨j,hj⟩:=List.mem_iff_getElem?.1 hp
      exact k1 j p (Qav hj) hj hpt]
     exact (hE t v k2).mono q1
   ·have hr:x<(K 0).c∨(K ops.toList.length).c<=x:=hr
    have a1:=T_c T (k:=j) (j:=0) (Nat.le_of_lt hj) (Nat.zero_le _)
    have a2:=T_c T (k:=ops.toList.length) (j:=j+1) (Nat.le_refl _) hj
    omega
 have:=wpIn_mono key (Q':=QiQ n (QiZ B w0 M fr σ (K 0) [⟨.nm,E ops.toList.length,ds,K ops.toList.length⟩])) fun e a w hq=>by
  cases e with
  | normal=>obtain ⟨J',e1,hq⟩:=hq;exact ⟨dsv,J',e1,hq⟩
  | ret=>obtain ⟨_,_,hq⟩:=hq;exact hq.elim
  | exit i=>obtain ⟨_,_,hq⟩:=hq;exact hq.elim
  | _=>exact hq.elim
 have e:ops.toList.toArray=ops:=by simp
 rw [e] at this
 exact this
theorem QjT (HH:HookOk C P):∀ fuel,QeJ (exec C fuel)/\Qjd P B (exec C fuel)/\Qlg P B (exec C fuel)
 | 0=>by
  refine ⟨?_,?_,?_⟩
  ·intro n rd c env ds m outs h;cases h
  ·intro n rd c env ds m outs h;cases h
  ·intro n rd c env ds m outs h;cases h
 | fuel+1=>by
  obtain ⟨h1,h2,h3⟩:=QjT HH fuel
  have hd:=QrF (C:=C) (Qgb HH h1) (Qgc h1)
  have hk:=Qrn HC (QkP HC HH h2 h1) (QkK h2 h1) (Qgb HH h1) (Qgc h1)
  have h4:=QpB HC HH h2 h1 h3 hk
  exact ⟨Qqw HH h1 hd,h4.1,h4.2⟩
theorem QuH (HH:HookOk C P) (fuel:Nat):QfM P B (callA C (exec C fuel)):=Qj4 HC (QjT (B:=B) HC HH fuel).2.1 (QjT (B:=B) HC HH fuel).1
end
end Go.Ce
namespace Go.Ce
open Go.RowKit Go.Vx
variable [Tok]
theorem QgG {a b:AV} {l m:List AV} {r:Bool} (h:beqC (a :: l) (b :: m)=some r):∃ x y,beqS a b=some x/\beqC l m=some y/\r=(x&&y):=by
 have h:(beqS a b).bind (fun x=>(beqC l m).map fun y=>x&&y)=some r:=h
 obtain ⟨x,hx,h⟩:=bind_some h
 obtain ⟨y,hy,h⟩:=map_some h
 exact ⟨x,y,hx,hy,h.symm⟩
theorem Qhz:∀ (k:Nat) {l m:List AV} {r:Bool},beqC l m=some r->∃ x y,beqC (l.take k) (m.take k)=some x/\beqC (l.drop k) (m.drop k)=some y/\r=(x&&y)
 | 0,l,m,r,h=>⟨true,r,by simp;rfl,by simpa using h,by simp⟩
 | k+1,[],[],r,h=>by
  cases h
  exact ⟨true,true,rfl,rfl,rfl⟩
 | k+1,[],_ :: _,r,h=>by cases h
 | k+1,_ :: _,[],r,h=>by cases h
 | k+1,a :: l,b :: m,r,h=>by
  obtain ⟨x,y,h1,h2,h3⟩:=QgG h
  obtain ⟨u,v,h4,h5,h6⟩:=Qhz k h2
  refine ⟨x&&u,v,?_,h5,by rw [h3,h6,Bool.and_assoc]⟩
  show (beqS a b).bind (fun x=>(beqC (l.take k) (m.take k)).map fun y=>x&&y)=_
  rw [h1,h4];rfl
def Eqp (P:Program) (D t:Nat) (sh:List Nat):Prop:=∀ (σ:Sig) (xs ys:List AV) (vs us:List Value) (r:Bool) (off:Nat),RelL σ xs vs->RelL σ ys us->((xs.drop off).take sh.length).map shp=sh->((ys.drop off).take sh.length).map shp=sh ->
 beqC ((xs.drop off).take sh.length) ((ys.drop off).take sh.length)=some r->∃ v u,Qhm P t vs off v/\Qhm P t us off u/\EqF P D t v u r
def Eqa (P:Program) (D t:Nat) (sh:List Nat):Prop:=∀ (σ:Sig) (xs ys:List AV) (vs us:List Value) (r:Bool),RelL σ xs vs->RelL σ ys us->xs.map shp=sh->ys.map shp=sh->beqC xs ys=some r->EqF P D t (.agg vs.toArray) (.agg us.toArray) r
theorem Eqp.up {P:Program} {D D' t:Nat} {sh:List Nat} (h:Eqp P D t sh) (hd:D<=D'):Eqp P D' t sh:=fun σ xs ys vs us r off h1 h2 h3 h4 h5=>by
 obtain ⟨v,u,a,b,c⟩:=h σ xs ys vs us r off h1 h2 h3 h4 h5
 exact ⟨v,u,a,b,c.up hd⟩
theorem QqC {σ:Sig} {xs:List AV} {vs:List Value} {off s:Nat} (h1:RelL σ xs vs) (h:((xs.drop off).take 1).map shp=[s]):∃ a v,(xs.drop off).take 1=[a]/\shp a=s/\vs[off]?=some v/\Rel σ a v:=by
 have hl:off<xs.length:=by
  rcases Nat.lt_or_ge off xs.length with h2|h2
  ·exact h2
  ·rw [List.drop_eq_nil_of_le h2] at h;cases h
 have d1:(xs.drop off).take 1=[xs[off]]:=by rw [List.drop_eq_getElem_cons hl];rfl
 obtain ⟨v,hv,rv⟩:=h1.at (List.getElem?_eq_getElem hl)
 rw [d1] at h
 exact ⟨_,v,d1,by simpa using h,hv,rv⟩
theorem QhU {a:AV} {k:IntKind} (h:shp a=kd k):∃ x,a = .i k x:=by
 cases a
 case i j x=>exact ⟨x,by rw [Qg1 h]⟩
 all_goals (cases k<;>cases h)
theorem Qr6 {a b:AV} {r:Bool} (h:beqC [a] [b]=some r):beqS a b=some r:=by
 obtain ⟨x,y,h6,h7,h8⟩:=QgG h
 have h7:some true=some y:=h7
 cases h7
 rw [h6,h8];simp
theorem Qby {P:Program} {t:Nat} {k:IntKind} (ht:T1 P t) (hu:Ud P t (.int k)):Eqp P 1 t [kd k]:=by
 intro σ xs ys vs us r off h1 h2 h3 h4 h5
 obtain ⟨a,v,e1,e2,e3,e4⟩:=QqC h1 h3
 obtain ⟨b,u,f1,f2,f3,f4⟩:=QqC h2 h4
 obtain ⟨x,rfl⟩:=QhU e2
 obtain ⟨y,rfl⟩:=QhU f2
 cases e4;cases f4
 have h5:beqC ((xs.drop off).take 1) ((ys.drop off).take 1)=some r:=h5
 rw [e1,f1] at h5
 have h6:=Qr6 h5
 have h6:cond (Nat.beq (kd k) (kd k)) (some (eqI x y)) none=some r:=h6
 rw [Nat.beq_refl,cond_true,QdA] at h6
 cases h6
 exact ⟨_,_,QaQ ht e3,QaQ ht f3,Qcp hu⟩
theorem QgM {P:Program} {D t:Nat} {sh:List Nat} (ht:TA P t sh.length) (h:Eqa P D t sh):Eqp P D t sh:=by
 intro σ xs ys vs us r off h1 h2 h3 h4 h5
 have l1:((vs.drop off).take sh.length).length=sh.length:=by
  rw [((h1.drop off).take sh.length).len]
  have:=congrArg List.length h3
  simpa using this
 have l2:((us.drop off).take sh.length).length=sh.length:=by
  rw [((h2.drop off).take sh.length).len]
  have:=congrArg List.length h4
  simpa using this
 exact ⟨_,_,Qdf ht l1 rfl,Qdf ht l2 rfl,h σ _ _ _ _ r ((h1.drop off).take _) ((h2.drop off).take _) h3 h4 h5⟩
inductive FsS (P:Program) (D:Nat):Nat->List Field->List Nat->Prop where
 | nil {off:Nat}:FsS P D off [] []
 | cons {off:Nat} {f:Field} {fs:List Field} {sh sh':List Nat} (h1:f.offset=off) (h2:f.name≠"_") (h3:Eqp P D f.type sh) (h4:FsS P D (off+sh.length) fs sh'):FsS P D off (f :: fs) (sh++sh')
theorem FsS.more {P:Program} {D off:Nat} {f:Field} {fs:List Field} {sh sh' tot:List Nat} (h3:Eqp P D f.type sh) (ht:tot=sh++sh') (h1:f.offset=off) (h2:f.name≠"_") (h4:FsS P D (off+sh.length) fs sh'):FsS P D off (f :: fs) tot:=by
 subst ht;exact .cons h1 h2 h3 h4
theorem Qni {l:List AV} {s s':List Nat} (h:l.map shp=s++s'):(l.take s.length).map shp=s/\(l.drop s.length).map shp=s':=by
 rw [List.map_take,List.map_drop,h]
 exact ⟨List.take_left' rfl,List.drop_left' rfl⟩
theorem FsS.eqs {P:Program} {D off:Nat} {fs:List Field} {sh:List Nat} (h:FsS P D off fs sh):∀ {σ:Sig} {xs ys:List AV} {vs us:List Value} {r:Bool},RelL σ xs vs->RelL σ ys us->(xs.drop off).map shp=sh->(ys.drop off).map shp=sh->beqC (xs.drop off) (ys.drop off)=some r->EqFs P D vs us fs r:=by
 induction h with
 | nil =>
  intro σ xs ys vs us r h1 h2 h3 h4 h5
  rw [List.map_eq_nil_iff.1 h3,List.map_eq_nil_iff.1 h4] at h5
  cases h5
  exact .nil
 | @cons off f fs sh sh' e1 e2 e3 _ ih =>
  intro σ xs ys vs us r h1 h2 h3 h4 h5
  obtain ⟨x,y,q1,q2,rfl⟩:=Qhz sh.length h5
  obtain ⟨a1,a2⟩:=Qni h3
  obtain ⟨b1,b2⟩:=Qni h4
  obtain ⟨v,u,p1,p2,p3⟩:=e3 σ xs ys vs us x off h1 h2 a1 b1 q1
  rw [List.drop_drop] at a2 b2 q2
  rw [List.drop_drop] at q2
  refine .cons e2 (by rw [e1];exact p1) (by rw [e1];exact p2) p3 (ih h1 h2 a2 b2 q2)
theorem QcF {P:Program} {D t:Nat} {fs:Array Field} {sh:List Nat} (ht:P.underlying t=some (.struct fs)) (hp:P.stoodInHeld t=false) (h:FsS P D 0 fs.toList sh):Eqa P (D+1) t sh:=by
 intro σ xs ys vs us r h1 h2 h3 h4 h5
 exact Qd3 ht hp (h.eqs (σ:=σ) (xs:=xs) (ys:=ys) h1 h2 (by simpa using h3) (by simpa using h4) (by simpa using h5))
theorem Qk1 {k:IntKind}:∀ {l m:List AV} {r:Bool},(∀ a∈l,shp a=kd k)->(∀ a∈m,shp a=kd k)->beqC l m=some r->l.length=m.length/\(r=true↔∀ (i:Nat) (a b:AV),l[i]?=some a->m[i]?=some b->beqS a b=some true)
 | [],[],r,_,_,h=>by cases h;simp
 | [],_ :: _,r,_,_,h=>by cases h
 | _ :: _,[],r,_,_,h=>by cases h
 | a :: l,b :: m,r,h1,h2,h=>by
  obtain ⟨x,y,e1,e2,rfl⟩:=QgG h
  obtain ⟨i1,i2⟩:=Qk1 (fun a ha=>h1 a (by simp [ha])) (fun a ha=>h2 a (by simp [ha])) e2
  refine ⟨by simp [i1],?_⟩
  rw [Bool.and_eq_true,i2]
  constructor
  ·rintro ⟨rfl,h3⟩ i a' b' ha hb
   cases i with
   | zero=>simp at ha hb;subst ha;subst hb;exact e1
   | succ i=>exact h3 i a' b' (by simpa using ha) (by simpa using hb)
  ·intro h3
   refine ⟨?_,fun i a' b' ha hb=>h3 (i+1) a' b' (by simpa using ha) (by simpa using hb)⟩
   have:=h3 0 a b (by simp) (by simp)
   rw [e1] at this
   simpa using this
theorem Qoh {P:Program} {t n el:Nat} {ie:TypeInfo} {k:IntKind} (ht:P.underlying t=some (.array n el)) (hi:P.info? el=some ie) (hk:P.cellsOf el=1) (h1:T1 P el) (hu:Ud P el (.int k)):Eqa P 2 t (List.replicate n (kd k)):=by
 intro σ xs ys vs us r r1 r2 s1 s2 hb
 have l1:xs.length=n:=by have:=congrArg List.length s1;simpa using this
 have l2:ys.length=n:=by have:=congrArg List.length s2;simpa using this
 have m1:∀ a∈xs,shp a=kd k:=fun a ha=>by
  have:shp a∈xs.map shp:=List.mem_map.2 ⟨a,ha,rfl⟩
  rw [s1] at this
  exact (List.mem_replicate.1 this).2
 have m2:∀ a∈ys,shp a=kd k:=fun a ha=>by
  have:shp a∈ys.map shp:=List.mem_map.2 ⟨a,ha,rfl⟩
  rw [s2] at this
  exact (List.mem_replicate.1 this).2
 obtain ⟨_,hall⟩:=Qk1 m1 m2 hb
 have at1:∀ i,i<n->∃ x,xs[i]?=some (.i k x)/\vs[i]?=some (.int k x):=fun i hi=>by
  have e:=List.getElem?_eq_getElem (l:=xs) (i:=i) (by omega)
  obtain ⟨x,hx⟩:=QhU (m1 _ (List.getElem_mem (l:=xs) (n:=i) (by omega)))
  obtain ⟨v,hv,rv⟩:=r1.at e
  rw [hx] at e rv
  cases rv
  exact ⟨x,e,hv⟩
 have at2:∀ i,i<n->∃ x,ys[i]?=some (.i k x)/\us[i]?=some (.int k x):=fun i hi=>by
  have e:=List.getElem?_eq_getElem (l:=ys) (i:=i) (by omega)
  obtain ⟨x,hx⟩:=QhU (m2 _ (List.getElem_mem (l:=ys) (n:=i) (by omega)))
  obtain ⟨v,hv,rv⟩:=r2.at e
  rw [hx] at e rv
  cases rv
  exact ⟨x,e,hv⟩
 let X:=fun (l:List AV) (i:Nat)=>(match l[i]? with|some (.i _ x)=>x|_=>0:Int)
 have eX:∀ {l:List AV} {i:Nat} {x:Int},l[i]?=some (.i k x)->X l i=x:=fun {l i x} h=>by
  show (match l[i]? with|some (.i _ x)=>x|_=>0)=x
  rw [h]
 have e:r=QrB (fun i=>decide (X xs i=X ys i)) n:=by
  rw [Bool.eq_iff_iff,hall]
  simp only [QrB,List.all_eq_true,List.mem_range,decide_eq_true_iff]
  constructor
  ·intro h i hi
   obtain ⟨x,a1,_⟩:=at1 i hi
   obtain ⟨y,b1,_⟩:=at2 i hi
   have:=h i _ _ a1 b1
   have this:cond (Nat.beq (kd k) (kd k)) (some (eqI x y)) none=some true:=this
   rw [Nat.beq_refl,cond_true,QdA] at this
   rw [eX a1,eX b1]
   simpa using this
  ·intro h i a b ha hb'
   have hi:i<n:=by have:=Qav ha;omega
   obtain ⟨x,a1,_⟩:=at1 i hi
   obtain ⟨y,b1,_⟩:=at2 i hi
   have:=h i hi
   rw [eX a1,eX b1] at this
   rw [a1] at ha;rw [b1] at hb'
   cases ha;cases hb'
   show cond (Nat.beq (kd k) (kd k)) (some (eqI x y)) none=some true
   rw [Nat.beq_refl,cond_true,QdA,QQ3 this]
 rw [e]
 refine Qg0 ht hi hk (us:=fun i=>.int k (X xs i)) (vs:=fun i=>.int k (X ys i)) (fun i hi=>?_) (fun i hi=>?_) (fun i _=>Qcp hu)
 ·obtain ⟨x,a1,a2⟩:=at1 i hi
  exact QaQ h1 (by rw [Nat.mul_one,a2,eX a1])
 ·obtain ⟨x,a1,a2⟩:=at2 i hi
  exact QaQ h1 (by rw [Nat.mul_one,a2,eX a1])
theorem QcX {P:Program} {D t:Nat} {sh:List Nat} (hg:P.eqGuardType P.depth t=false) (h:Eqa P D t sh) (hD:Nat.ble D 10000=true):Qqn P t sh:=by
 intro σ xs ys vs us r h1 h2 h3 h4 h5
 refine ⟨hg,fun w=>?_⟩
 have:=(h σ xs ys vs us r h1 h2 h3 h4 h5).up (QQ8 hD) 0 w
 simpa only [Nat.add_zero,Op.equal,Op.maxDepth] using this
noncomputable def cfgOf (types:List TypeInfo) (funcs:List Func) (es:List (Nat × List Nat)) (hk:Nat->List AV->Mem->Option (List (AV × Mem)):=fun _ _ _=>none) (bop:BinOp->Nat->IntKind->Int->Option AV:=fun _ _ _ _=>none) (tlen:Nat->Option AV:=fun _=>none) (tk:TokT:=QsZ) (kys:Nat->Bool:=fun _=>false):Cfg :=
 ⟨(Tr.ofL types 0 .lf).get,(Tr.ofL funcs 0 .lf).get,fun t=>(es.find? fun e=>Nat.beq e.1 t).map Prod.snd,hk,bop,tlen,tk,kys⟩
omit [Tok] in
theorem Qkm {P:Program} {t:Nat} {i:TypeInfo} (h:P.types[t]?=some i):P.info? t=some i:=by
 have ht:t<P.types.size:=by
  rcases Nat.lt_or_ge t P.types.size with h2|h2
  ·exact h2
  ·rw [Array.getElem?_eq_none h2] at h;cases h
 unfold Tables.info?
 rw [if_pos ht]
 exact h
structure TabOk (P:Program) (es:List (Nat × List Nat)):Prop where
 info:∀ t i,(Tr.ofL P.types.toList 0 .lf).get t=some i->P.info? t=some i
 fn:∀ f fn,(Tr.ofL P.funcs.toList 0 .lf).get f=some fn->P.funcs[f]?=some fn
 en:∀ f fn c,(Tr.ofL P.funcs.toList 0 .lf).get f=some fn->fn.body=some c->En P f
 eqs:∀ e∈es,∀ [Tok],Qqn P e.1 e.2
 ext:∀ f fn,(Tr.ofL P.funcs.toList 0 .lf).get f=some fn->fn.body=none->fn.name = "maps.clone"->∀ t b es clock (w:World),w.heap[b]?=some (.map es clock)->(callFunc f #[.iface t (.map (some b))]).run P w = .ok (.value (.iface t (.map (some w.heap.size)))) (w.alloc (.map es clock))
 mixed:P.follows .mixedOrders=true
omit [Tok] in
theorem QtA {P:Program} {es:List (Nat × List Nat)} {fc:Nat} {fnc:Func} (hE:∀ e∈es,∀ [Tok],Qqn P e.1 e.2) (hN:(P.funcs.toList.all fun fn=>fn.body.isNone||!(fn.name == "runtime.NumGoroutine"))=true)
  (hX:(P.funcs.toList.zipIdx.all fun q=>q.1.body.isSome||!(q.1.name == "maps.clone")||Nat.beq q.2 fc)=true) (hf:P.funcs[fc]?=some fnc) (hname:(fnc.name == "runtime.NumGoroutine")=false) (hb:fnc.body.isNone=true) (hn:Extern.findNext fnc=none) (he:Extern.find fnc=some Extern.MapsClone.clone) (hM:P.follows .mixedOrders=true) :
  TabOk P es:=by
 have fnat:∀ f fn,(Tr.ofL P.funcs.toList 0 .lf).get f=some fn->P.funcs[f]?=some fn:=fun f fn h=>by
  have:=Tr.ofL_get (show (Tr.ofL P.funcs.toList 0 .lf).get f=some fn from h)
  rwa [Array.getElem?_toList] at this
 refine ⟨fun t i h=>?_,fnat,fun f fn c h hc=>?_,hE,fun f fn h hb' hnm t b es' clock w hw=>?_,hM⟩
 ·have:=Tr.ofL_get (show (Tr.ofL P.types.toList 0 .lf).get t=some i from h)
  rw [Array.getElem?_toList] at this
  exact Qkm this
 ·have hf:=fnat f fn h
  have hmem:fn∈P.funcs.toList:=List.mem_of_getElem? (by rw [Array.getElem?_toList];exact hf)
  rw [List.all_eq_true] at hN
  have h2:=hN fn hmem
  rw [hc] at h2
  have h3:(fn.name == "runtime.NumGoroutine")=false:=by simpa using h2
  intro args w
  simp only [callFunc,Sem.run_bind,run_program,Result.andThen_ok,hf,h3,hc]
  simp
 ·have hf':=fnat f fn h
  have hmem:(fn,f)∈P.funcs.toList.zipIdx:=List.mem_zipIdx_iff_getElem?.2 (by rw [Array.getElem?_toList];exact hf')
  rw [List.all_eq_true] at hX
  have h2:=hX _ hmem
  dsimp only at h2
  rw [hb',hnm] at h2
  have h3:f=fc:=by
   have:Nat.beq f fc=true:=by simpa using h2
   exact Nat.eq_of_beq_eq_true this
  subst h3
  rw [run_callFunc_extern hf hname hb hn he]
  have e:Extern.MapsClone.clone #[.iface t (.map (some b))]=(getObj b >>= fun o=>match o with
    | .map entries clock=>(newObj (.map entries clock) >>= fun n=>pure (.iface t (.map (some n))))
    | _=>stuck "maps.clone: a map expected"):=rfl
  rw [e]
  simp [MapKept.run_getObj_map hw,Result.andThen,go_sem]
theorem QtP {P:Program} {es:List (Nat × List Nat)} (T:TabOk P es) {hk:Nat->List AV->Mem->Option (List (AV × Mem))} {bop:BinOp->Nat->IntKind->Int->Option AV} {tlen:Nat->Option AV} {tk:TokT} {kys:Nat->Bool}
  (hb:∀ op k j b a,bop op k j b=some a->∃ p,Tok.v k = .int j p/\∀ t,binA (cfgOf P.types.toList P.funcs.toList es hk bop tlen tk kys) op t (.i j p) (.i j b)=some a)
  (hl:∀ k r,tlen k=some r->∃ q l c,Tok.v k = .slice q l c/\∀ σ,Rel σ r (.int .i64 (l:Int))) (ht:TkOk tk:=by exact Qld) (hkys:∀ t,kys t=true->KeyOk P t dv:=by exact fun _ h=>(nomatch h)):CfgOk (cfgOf P.types.toList P.funcs.toList es hk bop tlen tk kys) P:=by
 refine ⟨T.info,T.fn,T.en,fun t sh h=>?_,T.ext,hb,hl,T.mixed,ht,hkys⟩
 have h:((es.find? fun e=>Nat.beq e.1 t).map Prod.snd)=some sh:=h
 obtain ⟨e,h1,h2⟩:=map_some h
 have h3:=List.find?_some h1
 have h4:=T.eqs e (List.mem_of_find?_eq_some h1)
 rw [Nat.eq_of_beq_eq_true h3,h2] at h4
 exact h4
noncomputable def mem0 (g:Nat) (cs:List AV) (T:Nat):Mem:=⟨(Tr.lf).put g (some (.row cs T 0 false)),64,[]⟩
def nums (k:IntKind) (l:List Nat):List AV:=l.map fun n=>.i k (Int.ofNat n)
def numsV (k:IntKind) (l:List Nat):List Value:=l.map fun n=>.int k (Int.ofNat n)
theorem Qk3 {σ:Sig} {k:IntKind}:∀ l:List Nat,RelL σ (nums k l) (numsV k l)
 | []=>.nil
 | n :: l=>.cons (.i k _) (Qk3 l)
theorem Qru {types:List TypeInfo} {funcs:List Func} {es:List (Nat × List Nat)} {bop:BinOp->Nat->IntKind->Int->Option AV} {tlen:Nat->Option AV} {tk:TokT} {kys:Nat->Bool} {P:Program}:HookOk (cfgOf types funcs es (fun _ _ _=>none) bop tlen tk kys) P :=
 by
 refine ⟨?_,fun B=>?_⟩
 ·intro f args m outs h;cases h
 ·intro f args m outs h;cases h
end Go.Ce
namespace Go.Ce
open Go.RowKit Go.Vx
variable [Tok]
noncomputable def trueB (g:Nat) (r:RL):Bool:=match r with
 | some [(.b true,m)]=>m.d.all fun x=>!(Nat.beq x g)
 | _=>false
theorem QnK {σ:Sig} {k:IntKind}:∀ {l:List Nat} {vs:List Value},RelL σ (nums k l) vs->vs=numsV k l
 | [],_,h=>by cases h;rfl
 | n :: l,_,h=>by
  have h2:RelL σ (.i k (Int.ofNat n) :: nums k l) _:=h
  clear h
  cases h2 with|cons h t=>?_
  cases h
  rw [QnK t];rfl
section
variable {B:Nat} {w0 w:World} {M:Nat->Prop} {σ:Sig} {fr:Nat->Res} {k:IntKind} {l:List Nat} {g T:Nat} {m:Mem}
theorem Qt3 (hh:m.h.get g=some (.row (nums k l) T 0 false)) (hq:Good B w0 M σ fr m.h.get w) {e:Nat} (hσ:σ g=some (g,e)):w.heap[g]?=some (.cells (numsV k l).toArray T (0,0)):=by
 obtain ⟨b,ee,ob,u1,u2,vs',rest,u3,u4,u5⟩:=hq.block hh rfl
 rw [hσ] at u1
 cases u1
 have u4:rest=[]:=by
  have:rest.length=0:=u4
  exact List.length_eq_zero_iff.1 this
 subst u4
 rw [QnK u3,List.append_nil] at u5
 subst u5
 exact u2
end
theorem QsP {C:Cfg} {P:Program} (HC:CfgOk C P) (HH:HookOk C P) {f fuel g T:Nat} {k:IntKind} {l:List Nat} {fn:Func} {c:Code} {args:List AV} {vs:List Value} (hf:C.fn f=some fn) (hc:fn.body=some c) (hg:g<64) (hargs:∀ σ,RelL σ args vs)
  (h:trueB g (callA C (exec C fuel) f args (mem0 g (nums k l) T))=true)
  {w:World} (hI:Tok.I w (·=g)) (hw:w.heap[g]?=some (.cells (numsV k l).toArray T (0,0))):Calls P f vs.toArray w (fun e w'=>e = .returned (.bool true)/\Own w no w' []):=by
 unfold trueB at h
 split at h
 ·rename_i m hm
  have hlt:g<w.heap.size:=by
   rcases Nat.lt_or_ge g w.heap.size with h|h
   ·exact h
   ·rw [Array.getElem?_eq_none h] at hw;cases hw
  let σ:Sig:=fun x=>if x<64 then some (x,0) else none
  have hσ:∀ x,x<64->σ x=some (x,0):=fun x hx=>if_pos hx
  have hget:∀ x,(mem0 g (nums k l) T).h.get x=if x=g then some (.row (nums k l) T 0 false) else none:=fun x=>by
   show ((Tr.lf (α:=AB)).put g (some (.row (nums k l) T 0 false))).get x=_
   rw [Tr.get_put,Tr.get_lf]
  have own:Own w (·=g) w (LH (m.c+64) (Qeq σ (fun _=>emp) (mem0 g (nums k l) T).h.get)):=by
   refine ⟨rfl,⟨rfl,Nat.le_refl _⟩,rfl,Nat.le_refl _,fun _ _ _=>rfl,fun x b=>x=g/\b=g,fun x R hR=>?_,fun x b hx=>by rw [hx.2];exact hlt,fun x x' b h h'=>h.1.trans h'.1.symm,fun x b h _=>h.2⟩
   obtain ⟨_,rfl⟩:=Qg3 hR
   by_cases hx:x=g
   ·subst hx
    have e:(mem0 x (nums k l) T).h.get x=some (.row (nums k l) T 0 false):=by rw [hget,if_pos rfl]
    unfold Qeq
    rw [e]
    refine ⟨x,0,_,hσ x hg,⟨rfl,rfl⟩,hw,numsV k l,[],Qk3 l,rfl,?_⟩
    simp
   ·have e:(mem0 g (nums k l) T).h.get x=none:=by rw [hget,if_neg hx]
    unfold Qeq
    rw [e]
    trivial
  have hpre:Pre (m.c+64) w (·=g) σ (fun _=>emp) (mem0 g (nums k l) T) w m.c:=by
   refine ⟨fun x hx=>⟨0,hσ x hx⟩,⟨own,fun x blk hx=>?_⟩,fun x h1 h2=>?_,by omega⟩
   ·rw [hget] at hx
    split at hx
    ·rename_i e;omega
    ·cases hx
   ·have h1:64<=x:=h1
    refine ⟨if_neg (by omega),rfl,?_⟩
    rw [hget,if_neg (by omega)]
  haveI:Inv w (·=g):=⟨hI⟩
  have:=QuH HC HH fuel (B:=m.c+64) f args (mem0 g (nums k l) T) _ hm hpre (fun o ho=>by simp at ho;subst ho;exact Nat.le_refl _) (hargs σ)
  rw [HC.en f fn c hf hc] at this
  refine Calls.mono this fun e w' hq=>?_
  obtain ⟨v,rfl,o,ho,σ',q1,q2,q3,q4⟩:=hq
  simp at ho
  subst ho
  cases q1
  refine ⟨rfl,?_⟩
  have hnd:g ∉ m.d:=fun hx=>by
   rw [List.all_eq_true] at h
   have:=h g hx
   rw [Nat.beq_refl] at this
   cases this
  have hh:m.h.get g=some (.row (nums k l) T 0 false):=by
   have e1:=q3.old g (show g<64 from hg) hnd
   rw [hget,if_pos rfl] at e1
   exact e1
  have u2:=Qt3 hh q4 (q2.le _ _ (hσ g hg))
  have o:=q4.own
  refine ⟨o.os,o.tape,o.output,o.size,fun b hb _=>?_,fun _ _=>False,by simp,fun _ _ h=>h.elim,fun _ _ _ h=>h.elim,fun _ _ h=>h.elim⟩
  by_cases hbg:b=g
  ·subst hbg;rw [u2,hw]
  ·exact o.old b hb hbg
 ·cases h
end Go.Ce
