/- A part of a proof: what functions of the program compute, and plain facts on that. -/
import Derived.Test.YtbjbjboehjdcaaaGreatCutsDiffsP4
set_option linter.unusedVariables false
set_option linter.unusedSimpArgs false
set_option maxHeartbeats 4000000
set_option maxRecDepth 100000
namespace Go.Proofs
open Go Go.Vx Go.RowKit
namespace Tt
theorem QlT (w:World) (a:Option Addr) (c:Nat) (l:List Cen) (g:Nat) (caps:List Value) (hg:En Tryz.prog g) (p:Cen->Bool) (hp:∀ (w1:World) (L1:List Res),Own w no w1 L1->∀ x∈l,Calls Tryz.prog g ([(.agg (cec x).toArray:Value)]++caps).toArray w1 (fun e w'=>e = .returned (.bool (p x))/\Own w1 no w' [])) (hr:Rd w (.slice a l.length c) 7 (l.map cec)):Calls Tryz.prog 88 #[.slice a l.length c,.func (.func g) #[] caps.toArray] w (fun e w'=>e = .returned (.int .i64 (QeO p l))/\Own w no w' []):=by
 refine Qaj (n:=19) Tryz.func88 rfl Tryz.ntmps88 rfl ?_
 have hs:=Own.start w
 have hn:=hr.sml
 refine Qag (Qab (Qaa (Qad (V:=I6 0) rfl (Qaf (Qag (Qag (Qab (Qaa (Qac (V:=.slice a l.length c) rfl (Qaa (Qa2 (n:=l.length) QbM (Rd.own' hr hs) (by simp) rfl (Qaa (Qac (V:=I6 0) rfl (Qaf (Qam (QaA (fun J μ J' w'=>∃ (Jo:Env) (k:Nat),J'=upd (mix ([4,5]++sq 8 11) Jo J) 8 (I6 (k:Int))/\(k<=l.length)/\(∀ j:Nat,j<k->p (gd l j)=false)/\μ=l.length-k/\Own w no w' []) ?_ ?_))))))))))))))))
 ·exact ⟨_,_,0,Qai (Qao (ds:=([4,5]++sq 8 11)) (Agr.refl _ _)) rfl,(by omega),(fun j hj=>absurd hj (Nat.not_lt_zero j)),rfl,hs⟩
 rintro μ J' w1 ⟨Jo,k,rfl,hk,hno,rfl,hs⟩
 refine Qag (Qab (Qaa (QaQ rfl rfl (Qaf (Qag (Qan (t:=decide ((k:Int)<((l.length:Nat):Int))) rfl (fun c2=>?_) (fun c2=>?_)))))))
 ·
  replace c2:=QQ1 c2
  refine Qap (Qag (Qam (Qag (Qab (Qaa (Qac (V:=I6 (k:Int)) rfl (Qaa (Qad (V:=I6 (k:Int)) rfl (Qaf (Qag (Qab (Qaa (Qac (V:=.func (.func g) #[] caps.toArray) rfl (Qaa (Qac (V:=.slice a l.length c) rfl (Qaa (Qac (V:=I6 (k:Int)) rfl (Qaa (Qaw QbM QaH.1 (Rd.own' hr hs) rfl rfl (by omega) (by rw [QQ6];omega) (Qaa (Qa1 (j:=0) (vs:=cec (gd l k)) k QaH (Rd.own' hr hs) (QaT (by omega)) rfl rfl rfl (by omega) (Qaa (Qgw (vs:=[.agg (cec (gd l k)).toArray]) (cs:=caps) (V:=.bool (p (gd l k))) hg rfl rfl (hp _ _ hs (gd l k) (QbK (by omega))) hs fun w3 hs=>(Qaf (Qan (t:=p (gd l k)) rfl (fun c4=>?_) (fun c4=>?_))))))))))))))))))))))))))
  ·
   refine Qag (Qab (Qaa (Qac (V:=I6 (k:Int)) rfl (Qaa (Qad (V:=I6 (k:Int)) rfl (Qaf (Qau ?_)))))))
   refine ⟨_,Qaq (V:=I6 (k:Int)) Tryz.results88 rfl,(Zr hs ?_)⟩
   exact congrArg (Value.int .i64) (Qjj (by omega) hno c4).symm
  refine Qap (Qab (Qaa (QaD (a:=(k:Int)) (b:=1) (c:=(k:Int)+1) rfl rfl (QbH (by omega) (by omega)) (Qaa (Qac (V:=I6 ((k:Int)+1)) rfl (Qaf ?_))))))
  refine ⟨_,?_,_,k+1,Qai (Qao (ds:=([4,5]++sq 8 11)) (by repeat (first|exact Agr.refl _ _|refine Agr.upd ?_ rfl|refine Agr.mix ?_ rfl))) rfl,(by omega),(Qb8 hno c4),rfl,hs.take 0⟩
  omega
 replace c2:=QQ2 c2
 refine QaF (Qag (Qab (Qaa (Qad (V:=I6 (-1)) rfl (Qaf (Qau ?_))))))
 refine ⟨_,Qaq (V:=I6 (-1)) Tryz.results88 rfl,(Zr hs ?_)⟩
 exact congrArg (Value.int .i64) (Qmq fun j hj=>hno j (by omega)).symm
end Tt
end Go.Proofs
namespace Go.Proofs
open Go Go.Vx Go.RowKit
namespace Tt
theorem Qmp (w:World) (S:Nat->Prop) (a:Option Addr) (c:Nat) (l:List Cen) (g:Nat) (caps:List Value) (hg:En Tryz.prog g) (p:Cen->Bool) (hp:∀ (w1:World) (L1:List Res),Own w S w1 L1->∀ x∈l,Calls Tryz.prog g ([(.agg (cec x).toArray:Value)]++caps).toArray w1 (fun e w'=>e = .returned (.bool (p x))/\Own w1 no w' [])) (hR:(row (.slice a l.length c) (l.map cec) 106 7).holds w S) (hlt:∀ b,S b->b<w.heap.size):Calls Tryz.prog 42 #[.slice a l.length c,.func (.func g) #[] caps.toArray] w (fun e w'=>∃ x:Unit,e = .returned (.slice a (l.filter fun x=>!p x).length c)/\Own w S w' [row (.slice a (l.filter fun x=>!p x).length c) ((l.filter fun x=>!p x).map cec) 106 7]/\True):=by
 refine Qaj (n:=42) Tryz.func42 rfl Tryz.ntmps42 rfl ?_
 have hs:=Own.lent hR hlt
 have hn:=(hs.rd 0 rfl).sml
 have hlc:=(hs.rd 0 rfl).roomM
 refine Qag (Qab (Qaa (Qad (V:=.slice none 0 0) rfl (Qaf (Qag (Qab (Qaa (Qac (V:=.slice a l.length c) rfl (Qaa (Qac (V:=.func (.func g) #[] caps.toArray) rfl (Qaa (Qat (vs:=[.slice a l.length c,.func (.func g) #[] caps.toArray]) (V:=I6 (QeO p l)) QuF rfl rfl ?hc hs fun w1 hs=>?_))))))))))))
 case hc=>exact (QlT _ a c l g caps hg p (fun w1 L1 h=>hp w1 _ (hs.call h)) (hs.rd 0 rfl))
 refine Qaa (Qad (V:=I6 (QeO p l)) rfl (Qaf (Qag (Qag ?_))))
 rcases Qj3 (p:=p) (l:=l) with hk2|hk2
 ·
  obtain ⟨hf1,hfl⟩:=hk2
  refine Qab (Qaa (Qbp (V:=I6 (QeO p l)) (V':=I6 (-1)) (Qac (V:=I6 (QeO p l)) rfl ⟨rfl,rfl⟩) (congrArg (Value.int .i64) hf1) (Qaa (Qbp (V:=.bool (decide ((-1:Int) = -1))) (V':=.bool true) (QaS rfl rfl ⟨rfl,rfl⟩) (congrArg Value.bool (QQ3 rfl)) (Qaf (Qdp rfl ?_))))))
  refine Qag (Qab (Qaa (Qac (V:=.slice a l.length c) rfl (Qaa (Qad (V:=.slice a l.length c) rfl (Qaf (Qau ?_)))))))
  refine ⟨_,Qaq (V:=.slice a l.length c) Tryz.results42 rfl,?_⟩
  rw [hfl]
  exact ⟨(),rfl,hs.take 1,trivial⟩
 obtain ⟨k0,hf1,hk0l,hpk,hft⟩:=hk2
 refine Qab (Qaa (Qbp (V:=I6 (QeO p l)) (V':=I6 (k0:Int)) (Qac (V:=I6 (QeO p l)) rfl ⟨rfl,rfl⟩) (congrArg (Value.int .i64) hf1) (Qaa (Qbp (V:=.bool (decide ((k0:Int) = -1))) (V':=.bool false) (QaS rfl rfl ⟨rfl,rfl⟩) (congrArg Value.bool (QQ4 (by omega))) (Qaf (Qcy rfl ?_))))))
 refine Qap (Qag (Qag (Qab (Qaa (Qbp (V:=I6 (QeO p l)) (V':=I6 (k0:Int)) (Qac (V:=I6 (QeO p l)) rfl ⟨rfl,rfl⟩) (congrArg (Value.int .i64) hf1) (Qaa (QaD (a:=(k0:Int)) (b:=1) (c:=((k0+1:Nat):Int)) rfl rfl (Qak (by omega) (by omega)) (Qaa (Qad (V:=I6 ((k0+1:Nat):Int)) rfl (Qaf (Qam (QaA (fun J μ J' w'=>∃ (Jo:Env) (i:Nat) (j:Nat) (m:List Cen),J'=upd (upd (mix ([5,6,7]++sq 16 20) Jo J) 5 (I6 (i:Int))) 6 (I6 (j:Int))/\(i<j)/\(j<=l.length)/\(Moved p l m i j)/\μ=l.length-j/\Own w S w' [row (.slice a l.length c) (m.map cec) 106 7]) ?_ ?_))))))))))))
 ·exact ⟨_,_,k0,k0+1,l,Qai (Qai (Qao (ds:=([5,6,7]++sq 16 20)) (Agr.refl _ _)) (congrArg (Value.int .i64) hf1)) rfl,(by omega),(by omega),(Qf3 hk0l hpk hft),rfl,hs⟩
 rintro μ J' w2 ⟨Jo,i,j,m,rfl,hij,hj,hmv,rfl,hs⟩
 have hml:=hmv.1
 refine Qag (Qag (Qab (Qaa (Qac (V:=I6 (j:Int)) rfl (Qaa (Qac (V:=.slice a l.length c) rfl (Qaa (Qa2 (n:=l.length) QbM (hs.rd 0 rfl) (by simp [hmv.1]) rfl (Qaa (QaQ rfl rfl (Qaf (Qan (t:=decide ((j:Int)<((l.length:Nat):Int))) rfl (fun c3=>?_) (fun c3=>?_)))))))))))))
 ·
  replace c3:=QQ1 c3
  refine Qap (Qag (Qam (Qag (Qab (Qaa (Qac (V:=.slice a l.length c) rfl (Qaa (Qac (V:=I6 (j:Int)) rfl (Qaa (Qaw QbM QaH.1 (hs.rd 0 rfl) rfl rfl (by omega) (by rw [QQ6];omega) (Qaa (Qa1 (j:=0) (vs:=cec (gd m j)) j QaH (hs.rd 0 rfl) (QaT (by omega)) rfl rfl rfl (by omega) (Qaa (QaM (cs:=cec (⟨0,0,0,0,(⟨0,0⟩:Dot),0⟩:Cen)) Qhu rfl hs fun b4 w5 hs=>(Qaa (QcK (V:=.agg (cec (gd m j)).toArray) (vs:=cec (gd m j)) (cs':=cec (gd m j)) QaH.1 hs 1 rfl rfl rfl rfl rfl (QQ8 rfl) (Qa8 _) (QaB rfl) fun w6 hs=>(Qaf (Qag (Qab (Qaa (Qac (V:=.func (.func g) #[] caps.toArray) rfl (Qaa (QaG (cs:=cec (gd m j)) QaH hs 1 rfl rfl rfl (Qaa (Qgw (vs:=[.agg (cec (gd m j)).toArray]) (cs:=caps) (V:=.bool (p (gd m j))) hg rfl rfl (hp _ _ hs (gd m j) (by rw [hmv.2.2 _ (Nat.le_refl _)];exact QbK (by omega))) hs fun w7 hs=>(Qaa (Qbz rfl (Qaf (Qan (t:=!(p (gd m j))) rfl (fun c8=>?_) (fun c8=>?_))))))))))))))))))))))))))))))
  ·
   replace c8:=Qbn c8
   refine Qag (Qab (Qaa (Qac (V:=.slice a l.length c) rfl (Qaa (Qac (V:=I6 (i:Int)) rfl (Qaa (QaG (cs:=cec (gd m j)) QaH hs 1 rfl rfl rfl (Qaa (Qaw QbM QaH.1 (hs.rd 0 rfl) rfl rfl (by omega) (by rw [QQ6];omega) (Qaa (QhB (z:=gd m j) i QaH.1 hs 0 rfl rfl rfl (by first|omega|(simp only [List.length_set];omega)) rfl rfl rfl (Qa8 _) fun w9 hs=>?_)))))))))))
   replace hs:Own w S w9 [row (.slice a l.length c) ((m.set i (gd m j)).map cec) 106 7,blk b4 (cec (gd m j)) 106]:=hs
   refine Qaf (Qab (Qaa (Qac (V:=I6 (i:Int)) rfl (Qaa (QaD (a:=(i:Int)) (b:=1) (c:=((i+1:Nat):Int)) rfl rfl (Qak (by omega) (by omega)) (Qaa (Qad (V:=I6 ((i+1:Nat):Int)) rfl (Qaf (Qab (Qaa (Qac (V:=I6 (j:Int)) rfl (Qaa (QaD (a:=(j:Int)) (b:=1) (c:=((j+1:Nat):Int)) rfl rfl (Qak (by omega) (by omega)) (Qaa (Qad (V:=I6 ((j+1:Nat):Int)) rfl (Qaf ?_))))))))))))))))
   refine ⟨_,?_,_,i+1,j+1,m.set i (gd m j),Qai (Qai (Qao (ds:=([5,6,7]++sq 16 20)) (by repeat (first|exact Agr.refl _ _|refine Agr.upd ?_ rfl|refine Agr.mix ?_ rfl))) rfl) rfl,(by omega),(by omega),(Qhf hmv (by omega) (by omega) c8),rfl,hs.take 1⟩
   omega
  replace c8:=Qbf c8
  refine Qap (Qab (Qaa (Qac (V:=I6 (j:Int)) rfl (Qaa (QaD (a:=(j:Int)) (b:=1) (c:=((j+1:Nat):Int)) rfl rfl (Qak (by omega) (by omega)) (Qaa (Qad (V:=I6 ((j+1:Nat):Int)) rfl (Qaf ?_))))))))
  refine ⟨_,?_,_,i,j+1,m,Qai (Qai (Qao (ds:=([5,6,7]++sq 16 20)) (by repeat (first|exact Agr.refl _ _|refine Agr.upd ?_ rfl|refine Agr.mix ?_ rfl))) rfl) rfl,(by omega),(by omega),(Qhb hmv (by omega) c8),rfl,hs.take 1⟩
  omega
 replace c3:=QQ2 c3
 refine QaF (Qag (Qab (Qaa (Qac (V:=.slice a l.length c) rfl (Qaa (Qac (V:=I6 (i:Int)) rfl (Qaa (QqD (l:=i) (h:=l.length) (m:=c) (n':=(m.drop i).length) Qi1 QaH.1 (hs.rd 0 rfl) rfl (.inr ⟨_,_,rfl,rfl⟩) (.inl ⟨rfl,rfl⟩) (.inl ⟨rfl,rfl⟩) (by omega) (by omega) (Nat.le_trans (show l.length<=m.length by omega) (Rd.roomM (hs.rd 0 rfl))) (Nat.le_refl _) (by simp only [List.length_take,List.length_drop]<;>omega) ?_))))))))
 refine Qaa (QjM QhD hs 0 rfl rfl (by rw [QQ6]<;>omega) (by simp only [QQ6,List.length_drop]<;>omega) (by intro v hv;have e:=QmY hv Qhu;subst e;exact (Qa8 _)) fun w10 hs=>(Qaf (Qag (Qab (Qaa (Qac (V:=.slice a l.length c) rfl (Qaa (Qac (V:=I6 (i:Int)) rfl (Qaa (Quo (l:=0) (h:=i) (n':=i) Qi1 QaH.1 (by omega) rfl (.inl ⟨rfl,rfl⟩) (.inr ⟨_,_,rfl,rfl⟩) (by omega) (by omega) (by omega) (Qaa (Qad (V:=.slice (sla a 0 c 7) i (c-0)) rfl (Qaf (Qau ?_))))))))))))))
 refine ⟨_,Qaq (V:=.slice (sla a 0 c 7) i (c-0)) Tryz.results42 rfl,?_⟩
 have he:=QiH hmv (by omega)
 have hil:i=(l.filter fun x=>!p x).length:=by rw [← he,List.length_take,hmv.1];omega
 replace hs:=hs.take 1
 simp only [List.set_cons_zero,List.take_succ_cons,List.take_zero,← List.map_take,he] at hs
 rw [← hil]
 refine ⟨(),?_,hs,trivial⟩
 rw [QkK,Nat.sub_zero]
end Tt
end Go.Proofs
namespace Go.Proofs
open Go Go.Vx Go.RowKit
namespace Tt
theorem Qeb (w:World) (p:Pst) (a1:Option Addr) (c1:Nat) (a2:Option Addr) (c2:Nat) (a3:Option Addr) (c3:Nat) (cut:Vec) (hcut:QbV cut) (hsortE:QgY Tryz.prog 48 49 cec 106 7 QjX) (hsortU:QgT Tryz.prog 134 .u16 32) (hok:Qc0 p) (hle:p.base.ents.length<=400) (hlt:p.base.ticks.length<=400) (hlo:p.ops.length<=400) (hr1:Rd w (.slice a1 p.base.ents.length c1) 7 (p.base.ents.map cec)) (hr2:Rd w (.slice a2 p.base.ticks.length c2) 2 (p.base.ticks.map lsc)) (hr3:Rd w (.slice a3 p.ops.length c3) 23 (p.ops.map oc)):Calls Tryz.prog 12 #[.agg (((vc p.base.known)++[(.slice a1 p.base.ents.length c1:Value),(.slice a2 p.base.ticks.length c2:Value) ])++[(.slice a3 p.ops.length c3:Value) ]++(vc p.known)).toArray,.agg (vc cut).toArray] w (fun e w'=>∃ x:(Option Addr × Nat) × (Option Addr × Nat),e = .returned (.tuple #[.agg (vc (Qah p cut).known++[(.slice x.1.1 (Qah p cut).ents.length x.1.2:Value),(.slice x.2.1 (Qah p cut).ticks.length x.2.2:Value)]).toArray,.int .i64 (Qbb p cut)])/\Own w no w' [row (.slice x.1.1 (Qah p cut).ents.length x.1.2) ((Qah p cut).ents.map cec) 106 7,row (.slice x.2.1 (Qah p cut).ticks.length x.2.2) ((Qah p cut).ticks.map lsc) 102 2]/\True):=by
 refine Qaj (n:=126) Tryz.func12 rfl Tryz.ntmps12 rfl ?_
 have hs:=Own.start w
 have ⟨hokb,hoko,hokk⟩:=hok
 have hn1:=hr1.sml
 have hn2:=hr2.sml
 have hn3:=hr3.sml
 refine Qag (Qab (Qaa (QaN (V:=.agg (((vc p.base.known)++[(.slice a1 p.base.ents.length c1:Value),(.slice a2 p.base.ticks.length c2:Value) ])++[(.slice a3 p.ops.length c3:Value) ]++(vc p.known)).toArray) (cs:=((vc p.base.known)++[(.slice a1 p.base.ents.length c1:Value),(.slice a2 p.base.ticks.length c2:Value) ])++[(.slice a3 p.ops.length c3:Value) ]++(vc p.known)) rfl rfl hs fun b1 w2 hs=>(Qaa (QaN (V:=.agg (vc cut).toArray) (cs:=vc cut) rfl rfl hs fun b3 w4 hs=>(Qaa (QaM (cs:=(vc vzero)++[(.slice none 0 0:Value),(.slice none 0 0:Value) ]) QhN rfl hs fun b5 w6 hs=>(Qaa (Qad (V:=I6 0) rfl (Qaf (Qag (Qag (Qab (Qaa (QaG (cs:=((vc p.base.known)++[(.slice a1 p.base.ents.length c1:Value),(.slice a2 p.base.ticks.length c2:Value) ])++[(.slice a3 p.ops.length c3:Value) ]++(vc p.known)) QeD hs 0 rfl rfl rfl (Qaa (QaG (cs:=vc cut) QbA hs 1 rfl rfl rfl (Qaa (Qat (vs:=[.agg (((vc p.base.known)++[(.slice a1 p.base.ents.length c1:Value),(.slice a2 p.base.ticks.length c2:Value) ])++[(.slice a3 p.ops.length c3:Value) ]++(vc p.known)).toArray,.agg (vc cut).toArray]) (V:=I6 (Qbb p cut)) Qtz rfl rfl ?hc hs fun w7 hs=>?_)))))))))))))))))))
 case hc=>exact (QmJ _ p a1 c1 a2 c2 a3 c3 cut hcut hok hle hlt hlo (Rd.own' hr1 hs) (Rd.own' hr2 hs) (Rd.own' hr3 hs))
 refine Qaa (Qad (V:=I6 (Qbb p cut)) rfl (Qaf (Qag (Qab (Qaa (Qac (V:=I6 (Qbb p cut)) rfl (Qaa (Qch rfl rfl (Qaf (Qan (t:=!decide (Qbb p cut=0)) rfl (fun c8=>?_) (fun c8=>?_)))))))))))
 ·
  replace c8:=Qbn c8
  replace c8:=QQ2 c8
  refine Qag (Qab (Qaa (QcI (vs:=[]) (cs:=(vc vzero)++[(.slice none 0 0:Value),(.slice none 0 0:Value) ]) [vc vzero,[(.slice none 0 0:Value)],[(.slice none 0 0:Value)]] [vc vzero,[(.slice none 0 0:Value)],[(.slice none 0 0:Value)]] QqH rfl (rfl) rfl rfl (Qaa (Qac (V:=I6 (Qbb p cut)) rfl (Qaa (QcK (V:=.agg ((vc vzero)++[(.slice none 0 0:Value),(.slice none 0 0:Value) ]).toArray) (vs:=(vc vzero)++[(.slice none 0 0:Value),(.slice none 0 0:Value) ]) (cs':=(vc vzero)++[(.slice none 0 0:Value),(.slice none 0 0:Value) ]) QcJ.1 hs 2 rfl rfl rfl rfl rfl (QQ8 rfl) (QbT (QcB _) (Qav rfl (Qav rfl Qbk))) (QaB rfl) fun w9 hs=>?_)))))))
  replace hs:Own w no w9 [blk b1 (((vc p.base.known)++[(.slice a1 p.base.ents.length c1:Value),(.slice a2 p.base.ticks.length c2:Value) ])++[(.slice a3 p.ops.length c3:Value) ]++(vc p.known)) 43,blk b3 (vc cut) 24,blk b5 ((vc vzero)++[(.slice none 0 0:Value),(.slice none 0 0:Value) ]) 38]:=hs
  refine Qaa (Qad (V:=I6 (Qbb p cut)) rfl (Qaf (Qau ?_)))
  refine ⟨_,Qdy (cs:=(vc vzero)++[(.slice none 0 0:Value),(.slice none 0 0:Value) ]) (V:=I6 (Qbb p cut)) Tryz.results12 QcJ hs 2 rfl rfl rfl rfl,?_⟩
  rw [QiT c8]
  exact ⟨((none,0),(none,0)),rfl,((hs.take 0).more _ (Qbg _ _ 106 7)).more _ (Qbg _ _ 102 2),trivial⟩
 replace c8:=Qbf c8
 replace c8:=QQ1 c8
 refine Qap (Qag (Qab (Qaa (QaM (cs:=[.slice none 0 0]) Qv3 rfl hs fun b10 w11 hs=>?_))))
 replace hs:Own w no w11 [blk b1 (((vc p.base.known)++[(.slice a1 p.base.ents.length c1:Value),(.slice a2 p.base.ticks.length c2:Value) ])++[(.slice a3 p.ops.length c3:Value) ]++(vc p.known)) 43,blk b3 (vc cut) 24,blk b5 ((vc vzero)++[(.slice none 0 0:Value),(.slice none 0 0:Value) ]) 38,blk b10 [.slice none 0 0] 29]:=hs
 refine Qaf (Qag (Qab (Qaa (Qgp rfl hs (Value.int .u16) (Value.int .u32) fun mr12 w13 hs=>(Qaa (Qad (V:=.map (some mr12)) rfl (Qaf (Qag (Qag (Qab (Qaa (Qae Qf5 rfl (Qaa (Qae Qdr rfl (Qaa (QaE (V:=.slice a2 p.base.ticks.length c2) QgZ hs 0 rfl rfl rfl (Qaa (Qa2 (n:=p.base.ticks.length) Qgi (Rd.own' hr2 hs) (by simp) rfl (Qaa (Qac (V:=I6 0) rfl (Qaf (Qam ?_))))))))))))))))))))))
 have hr0:=(Qec c8).1
 obtain ⟨hopsC,hrb⟩:=QcE hr0
 refine QaA (fun J μ J' w'=>∃ (Jo:Env) (k:Nat) (tm:List (Int × Int)),J'=upd (mix ([10]++sq 29 10) Jo J) 29 (I6 (k:Int))/\(k<=p.base.ticks.length)/\(tm=tk0 (p.base.ticks.take k))/\μ=p.base.ticks.length-k/\Own w no w' [blk b1 (((vc p.base.known)++[(.slice a1 p.base.ents.length c1:Value),(.slice a2 p.base.ticks.length c2:Value) ])++[(.slice a3 p.ops.length c3:Value) ]++(vc p.known)) 43,blk b3 (vc cut) 24,blk b5 ((vc vzero)++[(.slice none 0 0:Value),(.slice none 0 0:Value) ]) 38,blk b10 [.slice none 0 0] 29,QgV mr12 (Value.int .u16) (Value.int .u32) tm]) ?_ ?_
 ·exact ⟨_,_,0,[],Qai (Qao (ds:=([10]++sq 29 10)) (Agr.refl _ _)) rfl,(by omega),rfl,rfl,hs⟩
 rintro μ J' w14 ⟨Jo,k,tm,rfl,hk,htm,rfl,hs⟩
 refine Qag (Qab (Qaa (QaQ rfl rfl (Qaf (Qag (Qan (t:=decide ((k:Int)<((p.base.ticks.length:Nat):Int))) rfl (fun c15=>?_) (fun c15=>?_)))))))
 ·
  replace c15:=QQ1 c15
  refine Qap (Qag (Qam (Qag (Qab (Qaa (Qaw Qgi Qc8.1 (Rd.own' hr2 hs) rfl rfl (by omega) (by rw [QQ6];omega) (Qaa (Qa1 (j:=0) (vs:=lsc (gd p.base.ticks k)) k Qc8 (Rd.own' hr2 hs) (QaT (by omega)) rfl rfl rfl (by omega) (Qaa (QaM (cs:=lsc (⟨0,0⟩:Lst)) QlN rfl hs fun b16 w17 hs=>(Qaa (QcK (V:=.agg (lsc (gd p.base.ticks k)).toArray) (vs:=lsc (gd p.base.ticks k)) (cs':=lsc (gd p.base.ticks k)) Qc8.1 hs 5 rfl rfl rfl rfl rfl (QQ8 rfl) (QbZ _) (QaB rfl) fun w18 hs=>(Qaf (Qab (Qaa (Qac (V:=.map (some mr12)) rfl (Qaa (Qae Qe1 rfl (Qaa (QaE (V:=I7 ((gd p.base.ticks k).cart)) Qar hs 5 rfl rfl rfl (Qaa (Qae Qh0 rfl (Qaa (QaE (V:=.int .u32 ((gd p.base.ticks k).tick)) Qa6 hs 5 rfl rfl rfl (Qaa (QfO (k:=(gd p.base.ticks k).cart) (v:=(gd p.base.ticks k).tick) Qib QoK hs 4 rfl rfl rfl rfl fun w19 hs=>?_))))))))))))))))))))))))))
  replace hs:Own w no w19 [blk b1 (((vc p.base.known)++[(.slice a1 p.base.ents.length c1:Value),(.slice a2 p.base.ticks.length c2:Value) ])++[(.slice a3 p.ops.length c3:Value) ]++(vc p.known)) 43,blk b3 (vc cut) 24,blk b5 ((vc vzero)++[(.slice none 0 0:Value),(.slice none 0 0:Value) ]) 38,blk b10 [.slice none 0 0] 29,QgV mr12 (Value.int .u16) (Value.int .u32) (mput ((gd p.base.ticks k).cart) ((gd p.base.ticks k).tick) tm),blk b16 (lsc (gd p.base.ticks k)) 102]:=hs
  refine Qaf (Qab (Qaa (QaD (a:=(k:Int)) (b:=1) (c:=((k+1:Nat):Int)) rfl rfl (Qak (by omega) (by omega)) (Qaa (Qac (V:=I6 ((k+1:Nat):Int)) rfl (Qaf ?_))))))
  refine ⟨_,?_,_,k+1,mput ((gd p.base.ticks k).cart) ((gd p.base.ticks k).tick) tm,Qai (Qao (ds:=([10]++sq 29 10)) (by repeat (first|exact Agr.refl _ _|refine Agr.upd ?_ rfl|refine Agr.mix ?_ rfl))) rfl,(by omega),(by rw [QoO (by omega),← htm]),rfl,hs.take 5⟩
  omega
 replace c15:=QQ2 c15
 refine QaF (Qag (Qab (Qaa (Qae Qf5 rfl (Qaa (Qae QeH rfl (Qaa (QaE (V:=.slice a1 p.base.ents.length c1) QjH hs 0 rfl rfl rfl (Qaa (Qbh (vs:=[.slice a1 p.base.ents.length c1]) (V:=fun x:Option Addr × Nat=>.slice x.1 (p.base.ents).length x.2) QuQ rfl rfl (Qne _ a1 c1 p.base.ents (by omega) (Rd.own' hr1 hs)) hs fun x20 w21 hs _=>(Qaa (Qad (V:=.slice x20.1 ((p.base.ents).length) x20.2) rfl (Qaf (Qag (Qag (Qab (Qaa (Qae QmX rfl (Qaa (QaE (V:=.slice a3 p.ops.length c3) Qfs hs 0 rfl rfl rfl (Qaa (Qa2 (n:=p.ops.length) QdK (Rd.own' hr3 hs) (by simp) rfl (Qaa (Qac (V:=I6 0) rfl (Qaf (Qam ?_))))))))))))))))))))))))))
 have htm0:tm=tk0 p.base.ticks:=by rw [htm,Qb6 (by omega)]
 replace hs:=hs.more (row (.slice none 0 0) (List.map oc []) 98 23) (Qbg _ _ _ _)
 refine QaA (fun J μ J' w'=>∃ (Jo:Env) (k2:Nat) (a8:Option Addr) (cb8:Nat) (l8:List Opn) (a7:Option Addr) (cb7:Nat) (L7:List Cen) (tm2:List (Int × Int)),J'=upd (upd (mix ([11,13]++sq 46 53) Jo J) 46 (I6 (k2:Int))) 11 (.slice a7 L7.length cb7)/\(k2<=p.ops.length)/\(l8=Qal (p.ops.take k2) cut)/\(L7=QbC p.base.ents l8)/\(tm2=tkM (tk0 p.base.ticks) l8)/\(L7.length<=p.base.ents.length+k2)/\(l8.length<=k2)/\μ=p.ops.length-k2/\Own w no w' [blk b1 (((vc p.base.known)++[(.slice a1 p.base.ents.length c1:Value),(.slice a2 p.base.ticks.length c2:Value) ])++[(.slice a3 p.ops.length c3:Value) ]++(vc p.known)) 43,blk b3 (vc cut) 24,blk b5 ((vc vzero)++[(.slice none 0 0:Value),(.slice none 0 0:Value) ]) 38,blk b10 [.slice a8 l8.length cb8] 29,QgV mr12 (Value.int .u16) (Value.int .u32) tm2,row (.slice a7 L7.length cb7) (L7.map cec) 106 7,row (.slice a8 l8.length cb8) (l8.map oc) 98 23]) ?_ ?_
 ·exact ⟨_,_,0,none,0,[],x20.1,x20.2,p.base.ents,tm,Qai (Qai (Qao (ds:=([11,13]++sq 46 53)) (Agr.refl _ _)) rfl) rfl,(by omega),rfl,(by simp [QbC]),(by rw [htm0];rfl),(by omega),(Nat.le_refl _),rfl,hs⟩
 rintro μ J' w22 ⟨Jo,k2,a8,cb8,l8,a7,cb7,L7,tm2,rfl,hk2,hl8,hL7,htm2,hn7,hn8,rfl,hs⟩
 refine Qag (Qab (Qaa (QaQ rfl rfl (Qaf (Qag (Qan (t:=decide ((k2:Int)<((p.ops.length:Nat):Int))) rfl (fun c23=>?_) (fun c23=>?_)))))))
 ·
  replace c23:=QQ1 c23
  refine Qap (Qag (Qam (Qag (Qab (Qaa (Qaw QdK Qb5.1 (Rd.own' hr3 hs) rfl rfl (by omega) (by rw [QQ6];omega) (Qaa (Qa1 (j:=0) (vs:=oc (gd p.ops k2)) k2 Qb5 (Rd.own' hr3 hs) (QaT (by omega)) rfl rfl rfl (by omega) (Qaa (QaM (cs:=oc (⟨(⟨0,0⟩:Dot),0,0,0,0,0,vzero⟩:Opn)) QnV rfl hs fun b24 w25 hs=>(Qaa (QcK (V:=.agg (oc (gd p.ops k2)).toArray) (vs:=oc (gd p.ops k2)) (cs':=oc (gd p.ops k2)) Qb5.1 hs 7 rfl rfl rfl rfl rfl (QQ8 rfl) (Qey _) (QaB rfl) fun w26 hs=>?_))))))))))))
  replace hs:Own w no w26 [blk b1 (((vc p.base.known)++[(.slice a1 p.base.ents.length c1:Value),(.slice a2 p.base.ticks.length c2:Value) ])++[(.slice a3 p.ops.length c3:Value) ]++(vc p.known)) 43,blk b3 (vc cut) 24,blk b5 ((vc vzero)++[(.slice none 0 0:Value),(.slice none 0 0:Value) ]) 38,blk b10 [.slice a8 l8.length cb8] 29,QgV mr12 (Value.int .u16) (Value.int .u32) tm2,row (.slice a7 L7.length cb7) (L7.map cec) 106 7,row (.slice a8 l8.length cb8) (l8.map oc) 98 23,blk b24 (oc (gd p.ops k2)) 98]:=hs
  refine Qaf (Qag (Qag ?_))
  have hOk:=hoko _ (QbK (l:=p.ops) (i:=k2) (by omega))
  have hdk:=hOk.1
  have hxk:=hOk.2.2.2.2.2.2
  refine Qab (Qaa (QaG (cs:=vc cut) QbA hs 1 rfl rfl rfl (Qaa (Qae Qb3 rfl (Qaa (Qb0 (vs:=dc ((gd p.ops k2).dot)) QcR hs 7 rfl rfl rfl rfl (Qaa (Qat (vs:=[.agg (vc cut).toArray,.agg (dc ((gd p.ops k2).dot)).toArray]) (V:=.bool (QbB cut ((gd p.ops k2).dot))) Qn3 rfl rfl ?hc hs fun w27 hs=>?_))))))))
  case hc=>exact (QhS _ cut ((gd p.ops k2).dot) (by first|assumption|exact Qdl (by omega) (by omega) (by omega) (by omega)))
  refine Qaa (Qbz rfl (Qaf (Qan (t:=!(QbB cut ((gd p.ops k2).dot))) rfl (fun c28=>?_) (fun c28=>?_))))
  ·
   replace c28:=Qbn c28
   refine QaF (Qab (Qaa (QaD (a:=(k2:Int)) (b:=1) (c:=((k2+1:Nat):Int)) rfl rfl (Qak (by omega) (by omega)) (Qaa (Qac (V:=I6 ((k2+1:Nat):Int)) rfl (Qaf ?_))))))
   refine ⟨_,?_,_,k2+1,a8,cb8,l8,a7,cb7,L7,tm2,Qai (Qai (Qao (ds:=([11,13]++sq 46 53)) (by repeat (first|exact Agr.refl _ _|refine Agr.upd ?_ rfl|refine Agr.mix ?_ rfl))) rfl) rfl,(by omega),(QjR hl8 (by omega) c28),hL7,htm2,(by omega),(by omega),rfl,hs.take 7⟩
   omega
  replace c28:=Qbf c28
  refine Qap (Qag (Qab (Qaa (QaE (V:=.slice a8 l8.length cb8) Qfs hs 3 rfl rfl rfl (Qaa (QaG (cs:=oc (gd p.ops k2)) Qb5 hs 7 rfl rfl rfl (Qaa (QeQ (vals:=[.agg (oc (gd p.ops k2)).toArray]) (ls:=List.map oc ([gd p.ops k2]:List Opn)) Qng rfl rfl rfl (Qbe (enc:=oc) (fun _=>rfl) _) (QaJ Qey _) (QQ8 rfl) hs fun b29 w30 hs=>(Qaa (QbN (ls':=(l8++[gd p.ops k2]).map oc) (n:=(l8++[gd p.ops k2]).length) Qng hs 6 rfl rfl rfl (hs.rd 8 rfl) (QaJ Qey _) (by simp only [QQ6,QQ7,List.length_cons,List.length_nil];omega) (by simp) (by simp) fun a31 c31 w32 hs=>(Qaa (Qc7 (V:=.slice a31 ((l8++[gd p.ops k2]).length) c31) (cs':=[.slice a31 ((l8++[gd p.ops k2]).length) c31]) Qfs hs 3 rfl rfl rfl rfl (QQ8 rfl) rfl fun w33 hs=>(Qaf (Qag (Qab (Qaa (Qac (V:=.map (some mr12)) rfl (Qaa (Qae QdI rfl (Qaa (QaE (V:=I7 ((gd p.ops k2).cart)) Qar hs 7 rfl rfl rfl (Qaa (Qac (V:=.map (some mr12)) rfl (Qaa (Qae QdI rfl (Qaa (QaE (V:=I7 ((gd p.ops k2).cart)) Qar hs 7 rfl rfl rfl (Qaa (Qim (k:=(gd p.ops k2).cart) (z:=0) Qib QoK Qt7 (hs.mapf 4 rfl) rfl rfl (Qaa (Qae QhH rfl (Qaa (QaE (V:=.int .u32 ((gd p.ops k2).tick)) Qa6 hs 7 rfl rfl rfl (Qaa (Qrc rfl rfl (Qaa (QfO (k:=(gd p.ops k2).cart) (v:=max ((mget ((gd p.ops k2).cart) tm2).getD 0) ((gd p.ops k2).tick)) Qib QoK hs 4 rfl rfl rfl rfl fun w34 hs=>?_)))))))))))))))))))))))))))))))))))))
  replace hs:Own w no w34 [blk b1 (((vc p.base.known)++[(.slice a1 p.base.ents.length c1:Value),(.slice a2 p.base.ticks.length c2:Value) ])++[(.slice a3 p.ops.length c3:Value) ]++(vc p.known)) 43,blk b3 (vc cut) 24,blk b5 ((vc vzero)++[(.slice none 0 0:Value),(.slice none 0 0:Value) ]) 38,blk b10 [.slice a31 ((l8++[gd p.ops k2]).length) c31] 29,QgV mr12 (Value.int .u16) (Value.int .u32) (mput ((gd p.ops k2).cart) (max ((mget ((gd p.ops k2).cart) tm2).getD 0) ((gd p.ops k2).tick)) tm2),row (.slice a7 L7.length cb7) (L7.map cec) 106 7,row (.slice a31 ((l8++[gd p.ops k2]).length) c31) ((l8++[gd p.ops k2]).map oc) 98 23,blk b24 (oc (gd p.ops k2)) 98,row (.slice (some ⟨b29,0,none⟩) 1 1) ([gd p.ops k2].map oc) 98 23]:=hs
  refine Qaf (Qag (Qbj [some 69,some 70,some 71,some 72,some 73,some 74,some 75,some 76,some 77,some 78,some 79,some 80,some 81] [] [0,1,3,7,15,31,63,127,255,511,1023,2047,4095] [pv (Pq b24 (0+2)),pv (.int .u8 ((gd p.ops k2).kind)),pv (.bool (decide ((gd p.ops k2).kind=1))),pv (.bool (decide ((gd p.ops k2).kind=1))),pg ((decide ((gd p.ops k2).kind=1)) == false) (Pq b24 (0+2)),pg ((decide ((gd p.ops k2).kind=1)) == false) (.int .u8 ((gd p.ops k2).kind)),pg ((decide ((gd p.ops k2).kind=1)) == false) (.bool (decide ((gd p.ops k2).kind=2))),pv (.bool ((decide ((gd p.ops k2).kind=1))||(decide ((gd p.ops k2).kind=2)))),pv (.bool ((decide ((gd p.ops k2).kind=1))||(decide ((gd p.ops k2).kind=2)))),pg (((decide ((gd p.ops k2).kind=1))||(decide ((gd p.ops k2).kind=2))) == false) (Pq b24 (0+2)),pg (((decide ((gd p.ops k2).kind=1))||(decide ((gd p.ops k2).kind=2))) == false) (.int .u8 ((gd p.ops k2).kind)),pg (((decide ((gd p.ops k2).kind=1))||(decide ((gd p.ops k2).kind=2))) == false) (.bool (decide ((gd p.ops k2).kind=4))),pv (.bool (Qa0 (gd p.ops k2)))] (fun _ _=>_) [12] (by kernel_rfl) hs ⟨?_,?_,?_,?_,?_,?_,?_,?_,?_,?_,?_,?_,?_,trivial⟩ ?_))
  ·exact oa [] fun D J w hs=>Qae QbR rfl (Zz hs)
  ·exact oa [0] fun D J w hs=>QaE (V:=.int .u8 ((gd p.ops k2).kind)) QcN hs 7 rfl rfl rfl (Zz hs)
  ·exact oa [1] fun D J w hs=>QaS rfl rfl (Zz hs)
  ·exact oa [2] fun D J w hs=>Qac (V:=.bool (decide ((gd p.ops k2).kind=1))) rfl (Zz hs)
  ·exact og [3] fun D J w hG hs=>Qae QbR rfl (Zz hs)
  ·exact oy [3,4] [4] fun D J w hG hs=>QaE (V:=.int .u8 ((gd p.ops k2).kind)) QcN hs 7 rfl rfl rfl (Zz hs)
  ·exact oy [3,5] [5] fun D J w hG hs=>QaS rfl rfl (Zz hs)
  ·exact oa [3,6] fun D J w hs=>Qb4 (h':=decide ((gd p.ops k2).kind=2)) rfl rfl rfl (Zz hs)
  ·exact oa [7] fun D J w hs=>Qac (V:=.bool ((decide ((gd p.ops k2).kind=1))||(decide ((gd p.ops k2).kind=2)))) rfl (Zz hs)
  ·exact og [8] fun D J w hG hs=>Qae QbR rfl (Zz hs)
  ·exact oy [8,9] [9] fun D J w hG hs=>QaE (V:=.int .u8 ((gd p.ops k2).kind)) QcN hs 7 rfl rfl rfl (Zz hs)
  ·exact oy [8,10] [10] fun D J w hG hs=>QaS rfl rfl (Zz hs)
  ·exact oa [8,11] fun D J w hs=>Qbp (V:=.bool (((decide ((gd p.ops k2).kind=1))||(decide ((gd p.ops k2).kind=2)))||(decide ((gd p.ops k2).kind=4)))) (V':=.bool (Qa0 (gd p.ops k2))) (Qb4 (h':=decide ((gd p.ops k2).kind=4)) rfl rfl rfl ⟨rfl,rfl⟩) (congrArg Value.bool (Qq2 _)) (Zz hs)
  rintro J1 w35 J2 hJ hs
  replace hJ:J2=upd (mix (sq 69 13) J1 _) 81 (.bool (Qa0 (gd p.ops k2))):=hJ
  subst hJ
  refine Qan (t:=Qa0 (gd p.ops k2)) rfl (fun c36=>?_) (fun c36=>?_)
  ·
   replace hs:=hs.more emp trivial
   refine QaI HM [some 82,some 83,some 84,some 85,some 86,some 87,some 88,some 89,some 90,some 91,some 92,some 93,some 94,some 95,some 96,some 97,some 11] [[],[],[],[],[],[],[],[],[],[],[],[],[],[],[96],[97],[97]] [0,0,2,0,8,0,32,0,128,0,512,0,2048,8190,16382,32767,65535] [pv (.slice a7 L7.length cb7),pv (Pq b24 (0+3)),pv (I7 ((gd p.ops k2).cart)),pv (Pq b24 (0+4)),pv (I7 ((gd p.ops k2).item)),pv (Pq b24 (0+5)),pv (I7 ((gd p.ops k2).qty)),pv (Pq b24 (0+2)),pv (.int .u8 ((gd p.ops k2).kind)),pv (Pq b24 (0+0)),pv (.agg (dc ((gd p.ops k2).dot)).toArray),pv (.agg (oc (gd p.ops k2)).toArray),pv (.int .u64 (QcV (gd p.ops k2))),pv (.agg (cec (⟨(gd p.ops k2).cart,(gd p.ops k2).item,(gd p.ops k2).qty,(gd p.ops k2).kind,(gd p.ops k2).dot,QcV (gd p.ops k2)⟩:Cen)).toArray),(true,fun J=>.slice (some ⟨(bOf (J 96)),0,none⟩) 1 1),(true,fun J=>.slice (aOf (J 97)) ((L7++[(⟨(gd p.ops k2).cart,(gd p.ops k2).item,(gd p.ops k2).qty,(gd p.ops k2).kind,(gd p.ops k2).dot,QcV (gd p.ops k2)⟩:Cen)]).length) (cOf (J 97))),(true,fun J=>.slice (aOf (J 97)) ((L7++[(⟨(gd p.ops k2).cart,(gd p.ops k2).item,(gd p.ops k2).qty,(gd p.ops k2).kind,(gd p.ops k2).dot,QcV (gd p.ops k2)⟩:Cen)]).length) (cOf (J 97)))] (fun D J=>[blk b1 (((vc p.base.known)++[(.slice a1 p.base.ents.length c1:Value),(.slice a2 p.base.ticks.length c2:Value) ])++[(.slice a3 p.ops.length c3:Value) ]++(vc p.known)) 43,blk b3 (vc cut) 24,blk b5 ((vc vzero)++[(.slice none 0 0:Value),(.slice none 0 0:Value) ]) 38,blk b10 [.slice a31 ((l8++[gd p.ops k2]).length) c31] 29,QgV mr12 (Value.int .u16) (Value.int .u32) (mput ((gd p.ops k2).cart) (max ((mget ((gd p.ops k2).cart) tm2).getD 0) ((gd p.ops k2).tick)) tm2),cond (D 15) (row (.slice (aOf (J 97)) ((L7++[(⟨(gd p.ops k2).cart,(gd p.ops k2).item,(gd p.ops k2).qty,(gd p.ops k2).kind,(gd p.ops k2).dot,QcV (gd p.ops k2)⟩:Cen)]).length) (cOf (J 97))) ((L7++[(⟨(gd p.ops k2).cart,(gd p.ops k2).item,(gd p.ops k2).qty,(gd p.ops k2).kind,(gd p.ops k2).dot,QcV (gd p.ops k2)⟩:Cen)]).map cec) 106 7) (row (.slice a7 L7.length cb7) (L7.map cec) 106 7),row (.slice a31 ((l8++[gd p.ops k2]).length) c31) ((l8++[gd p.ops k2]).map oc) 98 23,blk b24 (oc (gd p.ops k2)) 98,row (.slice (some ⟨b29,0,none⟩) 1 1) ([gd p.ops k2].map oc) 98 23,cond (D 14) (row (.slice (some ⟨(bOf (J 96)),0,none⟩) 1 1) ([(⟨(gd p.ops k2).cart,(gd p.ops k2).item,(gd p.ops k2).qty,(gd p.ops k2).kind,(gd p.ops k2).dot,QcV (gd p.ops k2)⟩:Cen)].map cec) 106 7) (emp)]) [16] (by kernel_rfl) hs ⟨?_,?_,?_,?_,?_,?_,?_,?_,?_,?_,?_,?_,?_,?_,?_,?_,?_,trivial⟩ ?_
   ·exact ob [] [16] rfl rfl fun D J w hs=>Qac (V:=.slice a7 L7.length cb7) rfl (Zz hs)
   ·exact oa [] fun D J w hs=>Qae QdI rfl (Zz hs)
   ·exact oa [1] fun D J w hs=>QaE (V:=.int .u16 ((gd p.ops k2).cart)) Qar hs 7 rfl rfl rfl (Zz hs)
   ·exact oa [] fun D J w hs=>Qae QcU rfl (Zz hs)
   ·exact oa [3] fun D J w hs=>QaE (V:=.int .u16 ((gd p.ops k2).item)) Qar hs 7 rfl rfl rfl (Zz hs)
   ·exact oa [] fun D J w hs=>Qae Qdt rfl (Zz hs)
   ·exact oa [5] fun D J w hs=>QaE (V:=.int .u16 ((gd p.ops k2).qty)) Qar hs 7 rfl rfl rfl (Zz hs)
   ·exact oa [] fun D J w hs=>Qae QbR rfl (Zz hs)
   ·exact oa [7] fun D J w hs=>QaE (V:=.int .u8 ((gd p.ops k2).kind)) QcN hs 7 rfl rfl rfl (Zz hs)
   ·exact oa [] fun D J w hs=>Qae Qb3 rfl (Zz hs)
   ·exact oa [9] fun D J w hs=>Qb0 (vs:=dc ((gd p.ops k2).dot)) QcR hs 7 rfl rfl rfl rfl (Zz hs)
   ·exact oa [] fun D J w hs=>QaG (cs:=oc (gd p.ops k2)) Qb5 hs 7 rfl rfl rfl (Zz hs)
   ·exact oa [11] fun D J w hs=>Qat (vs:=[.agg (oc (gd p.ops k2)).toArray]) (V:=.int .u64 (QcV (gd p.ops k2))) Qvd rfl rfl (Qnk _ (gd p.ops k2) hxk) hs fun _ hs=>Zz hs
   ·exact oa [2,4,6,8,10,12] fun D J w hs=>Qbw (vs:=[(0,.int .u16 ((gd p.ops k2).cart)),(1,.int .u16 ((gd p.ops k2).item)),(2,.int .u16 ((gd p.ops k2).qty)),(3,.int .u8 ((gd p.ops k2).kind)),(4,.agg (dc ((gd p.ops k2).dot)).toArray),(5,.int .u64 (QcV (gd p.ops k2)))]) (cs:=cec (⟨(gd p.ops k2).cart,(gd p.ops k2).item,(gd p.ops k2).qty,(gd p.ops k2).kind,(gd p.ops k2).dot,QcV (gd p.ops k2)⟩:Cen)) Qua (rfl) rfl (Zz hs)
   ·exact oa [13] fun D J w hs=>QeQ (vals:=[.agg (cec (⟨(gd p.ops k2).cart,(gd p.ops k2).item,(gd p.ops k2).qty,(gd p.ops k2).kind,(gd p.ops k2).dot,QcV (gd p.ops k2)⟩:Cen)).toArray]) (ls:=List.map cec ([(⟨(gd p.ops k2).cart,(gd p.ops k2).item,(gd p.ops k2).qty,(gd p.ops k2).kind,(gd p.ops k2).dot,QcV (gd p.ops k2)⟩:Cen)]:List Cen)) QhD rfl rfl rfl (Qbe (enc:=cec) (fun _=>rfl) _) (QaJ Qa8 _) (QQ8 rfl) hs fun _ _ hs=>⟨rfl,hs.put 9 (QQ8 rfl)⟩
   ·exact oa [0,14] fun D J w hs=>QbN (ls':=(L7++[(⟨(gd p.ops k2).cart,(gd p.ops k2).item,(gd p.ops k2).qty,(gd p.ops k2).kind,(gd p.ops k2).dot,QcV (gd p.ops k2)⟩:Cen)]).map cec) (n:=(L7++[(⟨(gd p.ops k2).cart,(gd p.ops k2).item,(gd p.ops k2).qty,(gd p.ops k2).kind,(gd p.ops k2).dot,QcV (gd p.ops k2)⟩:Cen)]).length) QhD hs 5 rfl rfl rfl (hs.rd 9 rfl) (QaJ Qa8 _) (by simp only [QQ6,QQ7,List.length_cons,List.length_nil];omega) (by simp) (by simp) fun _ _ _ hs=>⟨rfl,hs⟩
   ·exact oa [15] fun D J w hs=>Qad (V:=.slice (aOf (J 97)) ((L7++[(⟨(gd p.ops k2).cart,(gd p.ops k2).item,(gd p.ops k2).qty,(gd p.ops k2).kind,(gd p.ops k2).dot,QcV (gd p.ops k2)⟩:Cen)]).length) (cOf (J 97))) rfl (Zz hs)
   rintro J1 w40 J2 hJ hs
   replace hJ:J2=upd (mix (sq 82 16++[11]) J1 _) 11 (.slice (aOf (J1 97)) ((L7++[(⟨(gd p.ops k2).cart,(gd p.ops k2).item,(gd p.ops k2).qty,(gd p.ops k2).kind,(gd p.ops k2).dot,QcV (gd p.ops k2)⟩:Cen)]).length) (cOf (J1 97))):=hJ
   replace hs:Own w no w40 [blk b1 (((vc p.base.known)++[(.slice a1 p.base.ents.length c1:Value),(.slice a2 p.base.ticks.length c2:Value) ])++[(.slice a3 p.ops.length c3:Value) ]++(vc p.known)) 43,blk b3 (vc cut) 24,blk b5 ((vc vzero)++[(.slice none 0 0:Value),(.slice none 0 0:Value) ]) 38,blk b10 [.slice a31 ((l8++[gd p.ops k2]).length) c31] 29,QgV mr12 (Value.int .u16) (Value.int .u32) (mput ((gd p.ops k2).cart) (max ((mget ((gd p.ops k2).cart) tm2).getD 0) ((gd p.ops k2).tick)) tm2),row (.slice (aOf (J1 97)) ((L7++[(⟨(gd p.ops k2).cart,(gd p.ops k2).item,(gd p.ops k2).qty,(gd p.ops k2).kind,(gd p.ops k2).dot,QcV (gd p.ops k2)⟩:Cen)]).length) (cOf (J1 97))) ((L7++[(⟨(gd p.ops k2).cart,(gd p.ops k2).item,(gd p.ops k2).qty,(gd p.ops k2).kind,(gd p.ops k2).dot,QcV (gd p.ops k2)⟩:Cen)]).map cec) 106 7,row (.slice a31 ((l8++[gd p.ops k2]).length) c31) ((l8++[gd p.ops k2]).map oc) 98 23,blk b24 (oc (gd p.ops k2)) 98,row (.slice (some ⟨b29,0,none⟩) 1 1) ([gd p.ops k2].map oc) 98 23,row (.slice (some ⟨(bOf (J1 96)),0,none⟩) 1 1) ([(⟨(gd p.ops k2).cart,(gd p.ops k2).item,(gd p.ops k2).qty,(gd p.ops k2).kind,(gd p.ops k2).dot,QcV (gd p.ops k2)⟩:Cen)].map cec) 106 7]:=hs
   generalize (bOf (J1 96))=b41 at hs
   generalize (aOf (J1 97))=a42 at hJ hs
   generalize (cOf (J1 97))=c43 at hJ hs
   subst hJ
   refine Qab (Qaa (QaD (a:=(k2:Int)) (b:=1) (c:=((k2+1:Nat):Int)) rfl rfl (Qak (by omega) (by omega)) (Qaa (Qac (V:=I6 ((k2+1:Nat):Int)) rfl (Qaf ?_)))))
   refine ⟨_,?_,_,k2+1,a31,c31,l8++[gd p.ops k2],a42,c43,L7++[(⟨(gd p.ops k2).cart,(gd p.ops k2).item,(gd p.ops k2).qty,(gd p.ops k2).kind,(gd p.ops k2).dot,QcV (gd p.ops k2)⟩:Cen)],mput ((gd p.ops k2).cart) (max ((mget ((gd p.ops k2).cart) tm2).getD 0) ((gd p.ops k2).tick)) tm2,Qai (Qai (Qao (ds:=([11,13]++sq 46 53)) (by repeat (first|exact Agr.refl _ _|refine Agr.upd ?_ rfl|refine Agr.mix ?_ rfl))) rfl) rfl,(by omega),(Qgv hl8 (by omega) c28),(by rw [hL7];exact Qfl c36),(by rw [QhP,← htm2]),(by simp only [QQ7,List.length_singleton];omega),(by simp only [QQ7,List.length_singleton];omega),rfl,hs.take 7⟩
   omega
  refine Qap (Qab (Qaa (QaD (a:=(k2:Int)) (b:=1) (c:=((k2+1:Nat):Int)) rfl rfl (Qak (by omega) (by omega)) (Qaa (Qac (V:=I6 ((k2+1:Nat):Int)) rfl (Qaf ?_))))))
  refine ⟨_,?_,_,k2+1,a31,c31,l8++[gd p.ops k2],a7,cb7,L7,mput ((gd p.ops k2).cart) (max ((mget ((gd p.ops k2).cart) tm2).getD 0) ((gd p.ops k2).tick)) tm2,Qai (Qai (Qao (ds:=([11,13]++sq 46 53)) (by repeat (first|exact Agr.refl _ _|refine Agr.upd ?_ rfl|refine Agr.mix ?_ rfl))) rfl) rfl,(by omega),(Qgv hl8 (by omega) c28),(by rw [hL7];exact QiJ c36),(by rw [QhP,← htm2]),(by omega),(by simp only [QQ7,List.length_singleton];omega),rfl,hs.take 7⟩
  omega
 replace c23:=QQ2 c23
 refine QaF (Qag ?_)
 have hu:l8=Qal p.ops cut:=by rw [hl8,Qb6 (by omega)]
 have hus:∀ o∈l8,o∈p.ops:=fun o h=>by rw [hu] at h;exact QdH h
 have hdt:∀ x∈L7,Qc3 x.dot:=by rw [hL7];exact QkU hok hus
 have htl:tm2.length<=10000:=by have:=Qq1 hok hr0 l8 hus;rw [← htm2] at this;omega
 have hfl:=List.length_filter_le (fun x=>!(fun x=>l8.any fun o=>QaV o (Qbm x)) x) L7
 refine Qab (Qaa (Qac (V:=.slice a7 L7.length cb7) rfl (Qaa (Qdv (cs:=[Pq b10 0]) rfl rfl (Qaa (Qjf (α:=Unit) (vs:=[.slice a7 L7.length cb7,.func (.func 43) #[] #[Pq b10 0]]) (V:=fun _=>.slice a7 (L7.filter fun x=>!(fun x=>l8.any fun o=>QaV o (Qbm x)) x).length cb7) (R:=row (.slice a7 L7.length cb7) (L7.map cec) 106 7) (R':=fun _=>row (.slice a7 (L7.filter fun x=>!(fun x=>l8.any fun o=>QaV o (Qbm x)) x).length cb7) ((L7.filter fun x=>!(fun x=>l8.any fun o=>QaV o (Qbm x)) x).map cec) 106 7) (Lo:=fun _=>[]) (F:=fun _ _=>True) Qu6 rfl rfl hs 5 rfl (fun S hS hlS hK=>Qmp _ S a7 cb7 L7 43 [Pq b10 0] Qwf (fun x=>l8.any fun o=>QaV o (Qbm x)) (fun w1 L1 h x hx=>Qm1 w1 x b10 a8 cb8 l8 (hdt x hx) ((hK 3 (by decide) _ rfl).cells h) ((hK 6 (by decide) _ rfl).rd h)) hS hlS) fun _ w44 hs _=>(Qaa (Qad (V:=.slice a7 ((L7.filter fun x=>!(fun x=>l8.any fun o=>QaV o (Qbm x)) x).length) cb7) rfl (Qaf (Qag (Qab (Qaa (Qac (V:=.slice a7 ((L7.filter fun x=>!(fun x=>l8.any fun o=>QaV o (Qbm x)) x).length) cb7) rfl (Qaa (Qbv (α:={ m:List Cen // QjX (L7.filter fun x=>!(fun x=>l8.any fun o=>QaV o (Qbm x)) x) m }) (vs:=[.slice a7 ((L7.filter fun x=>!(fun x=>l8.any fun o=>QaV o (Qbm x)) x).length) cb7,.func (.func 49) #[] #[]]) (V:=fun _=>.tuple #[]) (R:=row (.slice a7 ((L7.filter fun x=>!(fun x=>l8.any fun o=>QaV o (Qbm x)) x).length) cb7) ((L7.filter fun x=>!(fun x=>l8.any fun o=>QaV o (Qbm x)) x).map cec) 106 7) (R':=fun x=>row (.slice a7 ((L7.filter fun x=>!(fun x=>l8.any fun o=>QaV o (Qbm x)) x).length) cb7) (x.1.map cec) 106 7) (Lo:=fun _=>[]) (F:=fun _ _=>True) Qvm rfl rfl hs 5 rfl (fun S hS hlt=>hsortE _ S _ _ _ hS hlt (by omega)) fun sx46 w45 hs _=>?_)))))))))))))))
 replace hs:Own w no w45 [blk b1 (((vc p.base.known)++[(.slice a1 p.base.ents.length c1:Value),(.slice a2 p.base.ticks.length c2:Value) ])++[(.slice a3 p.ops.length c3:Value) ]++(vc p.known)) 43,blk b3 (vc cut) 24,blk b5 ((vc vzero)++[(.slice none 0 0:Value),(.slice none 0 0:Value) ]) 38,blk b10 [.slice a8 l8.length cb8] 29,QgV mr12 (Value.int .u16) (Value.int .u32) tm2,row (.slice a7 ((L7.filter fun x=>!(fun x=>l8.any fun o=>QaV o (Qbm x)) x).length) cb7) (sx46.1.map cec) 106 7,row (.slice a8 l8.length cb8) (l8.map oc) 98 23]:=hs
 refine Qaf (Qag (Qab (Qaa (QaG (cs:=vc cut) QbA hs 1 rfl rfl rfl (Qaa (Qac (V:=.slice a7 ((L7.filter fun x=>!(fun x=>l8.any fun o=>QaV o (Qbm x)) x).length) cb7) rfl (Qaa (QcI (vs:=[(0,.agg (vc cut).toArray),(1,.slice a7 ((L7.filter fun x=>!(fun x=>l8.any fun o=>QaV o (Qbm x)) x).length) cb7)]) (cs:=(vc cut)++[(.slice a7 ((L7.filter fun x=>!(fun x=>l8.any fun o=>QaV o (Qbm x)) x).length) cb7:Value),(.slice none 0 0:Value) ]) [vc vzero,[(.slice none 0 0:Value)],[(.slice none 0 0:Value)]] [vc cut,[(.slice a7 ((L7.filter fun x=>!(fun x=>l8.any fun o=>QaV o (Qbm x)) x).length) cb7:Value)],[(.slice none 0 0:Value)]] QqH rfl (rfl) rfl rfl (Qaa (QaM (cs:=(vc vzero)++[(.slice none 0 0:Value),(.slice none 0 0:Value) ]) QhN rfl hs fun b47 w48 hs=>(Qaa (QcK (V:=.agg ((vc cut)++[(.slice a7 ((L7.filter fun x=>!(fun x=>l8.any fun o=>QaV o (Qbm x)) x).length) cb7:Value),(.slice none 0 0:Value) ]).toArray) (vs:=(vc cut)++[(.slice a7 ((L7.filter fun x=>!(fun x=>l8.any fun o=>QaV o (Qbm x)) x).length) cb7:Value),(.slice none 0 0:Value) ]) (cs':=(vc cut)++[(.slice a7 ((L7.filter fun x=>!(fun x=>l8.any fun o=>QaV o (Qbm x)) x).length) cb7:Value),(.slice none 0 0:Value) ]) QcJ.1 hs 7 rfl rfl rfl rfl rfl (QQ8 rfl) (QbT (QcB _) (Qav rfl (Qav rfl Qbk))) (QaB rfl) fun w49 hs=>(Qaf (Qag (Qag (Qab (Qaa (Qac (V:=.map (some mr12)) rfl (Qaa (Qbh (vs:=[.map (some mr12)]) (V:=fun x:Option Addr × Nat=>.slice x.1 (Qa9 (tm2.map (·.1))).length x.2) QvD rfl rfl (QnW _ mr12 tm2 (hs.mapf 4 rfl) (by omega) hsortU) hs fun x50 w51 hs _=>(Qaa (Qa2 (n:=(Qa9 (tm2.map (·.1))).length) QaL (hs.rd 8 rfl) (by simp) rfl (Qaa (Qac (V:=I6 0) rfl (Qaf (Qam ?_))))))))))))))))))))))))))
 have hks:(Qa9 (tm2.map (·.1))).length<=10000:=by rw [QeS,QQ6];exact htl
 replace hs:=hs.more (row (.slice none 0 0) (List.map lsc []) 102 2) (Qbg _ _ _ _)
 refine QaA (fun J μ J' w'=>∃ (Jo:Env) (k3:Nat) (a9:Option Addr) (cb9:Nat) (T9:List Lst),J'=upd (mix ([16]++sq 110 15) Jo J) 110 (I6 (k3:Int))/\(k3<=(Qa9 (tm2.map (·.1))).length)/\(T9=((Qa9 (tm2.map (·.1))).take k3).map (tkL tm2))/\(T9.length<=k3)/\μ=(Qa9 (tm2.map (·.1))).length-k3/\Own w no w' [blk b1 (((vc p.base.known)++[(.slice a1 p.base.ents.length c1:Value),(.slice a2 p.base.ticks.length c2:Value) ])++[(.slice a3 p.ops.length c3:Value) ]++(vc p.known)) 43,blk b3 (vc cut) 24,blk b5 ((vc vzero)++[(.slice none 0 0:Value),(.slice none 0 0:Value) ]) 38,blk b10 [.slice a8 l8.length cb8] 29,QgV mr12 (Value.int .u16) (Value.int .u32) tm2,row (.slice a7 ((L7.filter fun x=>!(fun x=>l8.any fun o=>QaV o (Qbm x)) x).length) cb7) (sx46.1.map cec) 106 7,row (.slice a8 l8.length cb8) (l8.map oc) 98 23,blk b47 ((vc cut)++[(.slice a7 ((L7.filter fun x=>!(fun x=>l8.any fun o=>QaV o (Qbm x)) x).length) cb7:Value),(.slice a9 T9.length cb9:Value) ]) 38,row (.slice x50.1 ((Qa9 (tm2.map (·.1))).length) x50.2) ((Qa9 (tm2.map (·.1))).map (ic .u16)) 32 1,row (.slice a9 T9.length cb9) (T9.map lsc) 102 2]) ?_ ?_
 ·exact ⟨_,_,0,none,0,[],Qai (Qao (ds:=([16]++sq 110 15)) (Agr.refl _ _)) rfl,(by omega),rfl,(Nat.le_refl _),rfl,hs⟩
 rintro μ J' w52 ⟨Jo,k3,a9,cb9,T9,rfl,hk3,hT9,hn9,rfl,hs⟩
 refine Qag (Qab (Qaa (QaQ rfl rfl (Qaf (Qag (Qan (t:=decide ((k3:Int)<(((Qa9 (tm2.map (·.1))).length:Nat):Int))) rfl (fun c53=>?_) (fun c53=>?_)))))))
 ·
  replace c53:=QQ1 c53
  refine Qap (Qag (Qam (Qag (Qab (Qaa (Qaw QaL Qar.1 (hs.rd 8 rfl) rfl rfl (by omega) (by rw [QQ6];omega) (Qaa (QaR (j:=0) (V:=I7 (gd (Qa9 (tm2.map (·.1))) k3)) k3 Qar (hs.rd 8 rfl) (QaT (by omega)) rfl rfl (by omega) (Qaa (Qad (V:=I7 (gd (Qa9 (tm2.map (·.1))) k3)) rfl (Qaf (Qab (Qaa (Qae Qdr rfl (Qaa (QaE (V:=.slice a9 T9.length cb9) QgZ hs 7 rfl rfl rfl (Qaa (Qac (V:=I7 (gd (Qa9 (tm2.map (·.1))) k3)) rfl (Qaa (Qac (V:=.map (some mr12)) rfl (Qaa (Qac (V:=I7 (gd (Qa9 (tm2.map (·.1))) k3)) rfl (Qaa (Qim (k:=gd (Qa9 (tm2.map (·.1))) k3) (z:=0) Qib QoK Qt7 (hs.mapf 4 rfl) rfl rfl (Qaa (Qbw (vs:=[(0,I7 (gd (Qa9 (tm2.map (·.1))) k3)),(1,.int .u32 ((mget (gd (Qa9 (tm2.map (·.1))) k3) tm2).getD 0))]) (cs:=lsc (⟨gd (Qa9 (tm2.map (·.1))) k3,(mget (gd (Qa9 (tm2.map (·.1))) k3) tm2).getD 0⟩:Lst)) Qt8 (rfl) rfl (Qaa (QeQ (vals:=[.agg (lsc (⟨gd (Qa9 (tm2.map (·.1))) k3,(mget (gd (Qa9 (tm2.map (·.1))) k3) tm2).getD 0⟩:Lst)).toArray]) (ls:=List.map lsc ([(⟨gd (Qa9 (tm2.map (·.1))) k3,(mget (gd (Qa9 (tm2.map (·.1))) k3) tm2).getD 0⟩:Lst)]:List Lst)) QpJ rfl rfl rfl (Qbe (enc:=lsc) (fun _=>rfl) _) (QaJ QbZ _) (QQ8 rfl) hs fun b54 w55 hs=>?_))))))))))))))))))))))))))))
  replace hs:Own w no w55 [blk b1 (((vc p.base.known)++[(.slice a1 p.base.ents.length c1:Value),(.slice a2 p.base.ticks.length c2:Value) ])++[(.slice a3 p.ops.length c3:Value) ]++(vc p.known)) 43,blk b3 (vc cut) 24,blk b5 ((vc vzero)++[(.slice none 0 0:Value),(.slice none 0 0:Value) ]) 38,blk b10 [.slice a8 l8.length cb8] 29,QgV mr12 (Value.int .u16) (Value.int .u32) tm2,row (.slice a7 ((L7.filter fun x=>!(fun x=>l8.any fun o=>QaV o (Qbm x)) x).length) cb7) (sx46.1.map cec) 106 7,row (.slice a8 l8.length cb8) (l8.map oc) 98 23,blk b47 ((vc cut)++[(.slice a7 ((L7.filter fun x=>!(fun x=>l8.any fun o=>QaV o (Qbm x)) x).length) cb7:Value),(.slice a9 T9.length cb9:Value) ]) 38,row (.slice x50.1 ((Qa9 (tm2.map (·.1))).length) x50.2) ((Qa9 (tm2.map (·.1))).map (ic .u16)) 32 1,row (.slice a9 T9.length cb9) (T9.map lsc) 102 2,row (.slice (some ⟨b54,0,none⟩) 1 1) ([(⟨gd (Qa9 (tm2.map (·.1))) k3,(mget (gd (Qa9 (tm2.map (·.1))) k3) tm2).getD 0⟩:Lst)].map lsc) 102 2]:=hs
  refine Qaa (QbN (ls':=(T9++[(⟨gd (Qa9 (tm2.map (·.1))) k3,(mget (gd (Qa9 (tm2.map (·.1))) k3) tm2).getD 0⟩:Lst)]).map lsc) (n:=(T9++[(⟨gd (Qa9 (tm2.map (·.1))) k3,(mget (gd (Qa9 (tm2.map (·.1))) k3) tm2).getD 0⟩:Lst)]).length) QpJ hs 9 rfl rfl rfl (hs.rd 10 rfl) (QaJ QbZ _) (by simp only [QQ6,QQ7,List.length_cons,List.length_nil];omega) (by simp) (by simp) fun a56 c56 w57 hs=>(Qaa (Qae Qdr rfl (Qaa (Qc7 (V:=.slice a56 ((T9++[(⟨gd (Qa9 (tm2.map (·.1))) k3,(mget (gd (Qa9 (tm2.map (·.1))) k3) tm2).getD 0⟩:Lst)]).length) c56) (cs':=(vc cut)++[(.slice a7 ((L7.filter fun x=>!(fun x=>l8.any fun o=>QaV o (Qbm x)) x).length) cb7:Value),(.slice a56 ((T9++[(⟨gd (Qa9 (tm2.map (·.1))) k3,(mget (gd (Qa9 (tm2.map (·.1))) k3) tm2).getD 0⟩:Lst)]).length) c56:Value) ]) QgZ hs 7 rfl rfl rfl rfl (QQ8 rfl) rfl fun w58 hs=>(Qaf (Qab (Qaa (QaD (a:=(k3:Int)) (b:=1) (c:=((k3+1:Nat):Int)) rfl rfl (Qak (by omega) (by omega)) (Qaa (Qac (V:=I6 ((k3+1:Nat):Int)) rfl (Qaf ?_))))))))))))
  refine ⟨_,?_,_,k3+1,a56,c56,T9++[(⟨gd (Qa9 (tm2.map (·.1))) k3,(mget (gd (Qa9 (tm2.map (·.1))) k3) tm2).getD 0⟩:Lst)],Qai (Qao (ds:=([16]++sq 110 15)) (by repeat (first|exact Agr.refl _ _|refine Agr.upd ?_ rfl|refine Agr.mix ?_ rfl))) rfl,(by omega),(QkN (f:=tkL tm2) hT9 (by omega)),(by simp only [QQ7,List.length_singleton];omega),rfl,hs.take 10⟩
  omega
 replace c53:=QQ2 c53
 refine QaF (Qag (Qab (Qaa (QaG (cs:=(vc cut)++[(.slice a7 ((L7.filter fun x=>!(fun x=>l8.any fun o=>QaV o (Qbm x)) x).length) cb7:Value),(.slice a9 T9.length cb9:Value) ]) QcJ hs 7 rfl rfl rfl (Qaa (QcK (V:=.agg ((vc cut)++[(.slice a7 ((L7.filter fun x=>!(fun x=>l8.any fun o=>QaV o (Qbm x)) x).length) cb7:Value),(.slice a9 T9.length cb9:Value) ]).toArray) (vs:=(vc cut)++[(.slice a7 ((L7.filter fun x=>!(fun x=>l8.any fun o=>QaV o (Qbm x)) x).length) cb7:Value),(.slice a9 T9.length cb9:Value) ]) (cs':=(vc cut)++[(.slice a7 ((L7.filter fun x=>!(fun x=>l8.any fun o=>QaV o (Qbm x)) x).length) cb7:Value),(.slice a9 T9.length cb9:Value) ]) QcJ.1 hs 2 rfl rfl rfl rfl rfl (QQ8 rfl) (QbT (QcB _) (Qav rfl (Qav rfl Qbk))) (QaB rfl) fun w59 hs=>?_))))))
 replace hs:Own w no w59 [blk b1 (((vc p.base.known)++[(.slice a1 p.base.ents.length c1:Value),(.slice a2 p.base.ticks.length c2:Value) ])++[(.slice a3 p.ops.length c3:Value) ]++(vc p.known)) 43,blk b3 (vc cut) 24,blk b5 ((vc cut)++[(.slice a7 ((L7.filter fun x=>!(fun x=>l8.any fun o=>QaV o (Qbm x)) x).length) cb7:Value),(.slice a9 T9.length cb9:Value) ]) 38,blk b10 [.slice a8 l8.length cb8] 29,QgV mr12 (Value.int .u16) (Value.int .u32) tm2,row (.slice a7 ((L7.filter fun x=>!(fun x=>l8.any fun o=>QaV o (Qbm x)) x).length) cb7) (sx46.1.map cec) 106 7,row (.slice a8 l8.length cb8) (l8.map oc) 98 23,blk b47 ((vc cut)++[(.slice a7 ((L7.filter fun x=>!(fun x=>l8.any fun o=>QaV o (Qbm x)) x).length) cb7:Value),(.slice a9 T9.length cb9:Value) ]) 38,row (.slice x50.1 ((Qa9 (tm2.map (·.1))).length) x50.2) ((Qa9 (tm2.map (·.1))).map (ic .u16)) 32 1,row (.slice a9 T9.length cb9) (T9.map lsc) 102 2]:=hs
 refine Qaa (Qad (V:=I6 0) rfl (Qaf (Qau ?_)))
 refine ⟨_,Qdy (cs:=(vc cut)++[(.slice a7 ((L7.filter fun x=>!(fun x=>l8.any fun o=>QaV o (Qbm x)) x).length) cb7:Value),(.slice a9 T9.length cb9:Value) ]) (V:=I6 0) Tryz.results12 QcJ hs 2 rfl rfl rfl rfl,?_⟩
 have hmz:=c8
 have hTT:T9=(Qa9 (tm2.map (·.1))).map (tkL tm2):=by rw [hT9,Qb6 (by omega)]
 have hX:=Qjb hok hmz hu hL7 sx46.2 htm2 hTT
 have hml:=sx46.2.1.length_eq.symm
 rw [hX,hmz]
 rw [hml] at hs ⊢
 exact ⟨((a7,cb7),(a9,cb9)),rfl,hs.two 5 9 (by decide) rfl rfl,trivial⟩
end Tt
end Go.Proofs
namespace Go.Proofs
open Go Go.Vx Go.RowKit
namespace Tt
theorem QfX (w:World) (S:Nat->Prop) (b:Nat) (L:List Dif) (x:Dif) (hR:(Qew 60 83 b L).holds w S) (hlS:∀ x,S x->x<w.heap.size) (hL:L.length<=100000000):Calls Tryz.prog 65 #[.agg (dfc x).toArray,.pointer (some ⟨b,0,none⟩)] w (fun e w'=>∃ x_:Unit,e = .returned (.tuple #[])/\Own w S w' [Qew 60 83 b (L++[x])]/\True):=by
 refine Qaj (n:=7) Tryz.func65 rfl Tryz.ntmps65 rfl ?_
 obtain ⟨a0,c0,hs⟩:=Qoo hR hlS
 refine Qag (Qab (Qaa (QaN (V:=.agg (dfc x).toArray) (cs:=dfc x) rfl rfl hs fun b1 w2 hs=>(Qaf (Qab (Qaa (QaE (V:=.slice a0 L.length c0) Qrh hs 0 rfl rfl rfl (Qaa (QaG (cs:=dfc x) Qf7 hs 2 rfl rfl rfl (Qaa (QeQ (vals:=[.agg (dfc x).toArray]) (ls:=List.map dfc ([x]:List Dif)) QsR rfl rfl rfl (Qbe (enc:=dfc) (fun _=>rfl) _) (QaJ QdJ _) (QQ8 rfl) hs fun b3 w4 hs=>(Qaa (QbN (ls':=(L++[x]).map dfc) (n:=(L++[x]).length) QsR hs 1 rfl rfl rfl (hs.rd 3 rfl) (QaJ QdJ _) (by simp only [QQ6,QQ7,List.length_cons,List.length_nil];omega) (by simp) (by simp) fun a5 c5 w6 hs=>(Qaa (Qc7 (V:=.slice a5 ((L++[x]).length) c5) (cs':=[.slice a5 ((L++[x]).length) c5]) Qrh hs 0 rfl rfl rfl rfl (QQ8 rfl) rfl fun w7 hs=>?_)))))))))))))))
 replace hs:Own w S w7 [blk b [.slice a5 ((L++[x]).length) c5] 60,row (.slice a5 ((L++[x]).length) c5) ((L++[x]).map dfc) 83 5,blk b1 (dfc x) 83,row (.slice (some ⟨b3,0,none⟩) 1 1) ([x].map dfc) 83 5]:=hs
 refine Qaf ?_
 refine ⟨_,Qbr Tryz.results65,?_⟩
 exact ⟨(),rfl,Qpi (hs.two 0 1 (by decide) rfl rfl),trivial⟩
end Tt
end Go.Proofs
namespace Go.Proofs
open Go Go.Vx Go.RowKit
namespace Tt
theorem QnD (w:World) (S:Nat->Prop) (b:Nat) (L:List Dif) (va:Int) (la:List Line) (ao:Bool) (at_:Int) (aa:Option Addr) (ca:Nat) (vb:Int) (lb:List Line) (bo:Bool) (bt:Int) (ab:Option Addr) (cb:Nat) (hra:QfM la) (hrb:QfM lb) (hna:la.length<=100000) (hnb:lb.length<=100000) (hva:∀ (w1:World) (L1:List Res),Own w S w1 L1->Rd w1 (.slice aa la.length ca) 2 (la.map lc)) (hvb:∀ (w1:World) (L1:List Res),Own w S w1 L1->Rd w1 (.slice ab lb.length cb) 2 (lb.map lc)) (hR:(Qew 60 83 b L).holds w S) (hlS:∀ x,S x->x<w.heap.size) (hL:L.length<=10000000):Calls Tryz.prog 64 #[.agg #[.int .u16 va,.slice aa la.length ca,.bool ao,.int .u32 at_],.agg #[.int .u16 vb,.slice ab lb.length cb,.bool bo,.int .u32 bt],.func (.func 65) #[] #[.pointer (some ⟨b,0,none⟩)]] w (fun e w'=>∃ x_:Unit,e = .returned (.tuple #[])/\Own w S w' [Qew 60 83 b (L++Qde (⟨va,la,ao,at_⟩:Vw) (⟨vb,lb,bo,bt⟩:Vw))]/\True):=by
 refine Qaj (n:=126) Tryz.func64 rfl Tryz.ntmps64 rfl ?_
 have hs:=Own.lent hR hlS
 refine Qag (Qab (Qaa (QaN (V:=.agg #[I7 va,.slice aa la.length ca,.bool ao,.int .u32 at_]) (cs:=[I7 va,.slice aa la.length ca,.bool ao,.int .u32 at_]) rfl rfl hs fun b1 w2 hs=>(Qaa (QaN (V:=.agg #[I7 vb,.slice ab lb.length cb,.bool bo,.int .u32 bt]) (cs:=[I7 vb,.slice ab lb.length cb,.bool bo,.int .u32 bt]) rfl rfl hs fun b3 w4 hs=>(Qaf (Qag (QaI HM [some 9,some 10,some 11,some 12,some 6,some 7] [] [0,1,0,4,3,31] [pv (Pq b1 (0+1)),pv (.slice aa la.length ca),pv (Pq b3 (0+1)),pv (.slice ab lb.length cb),pv (.slice aa la.length ca),pv (.slice ab lb.length cb)] (fun _ _=>_) [5,4] (by kernel_rfl) hs ⟨?_,?_,?_,?_,?_,?_,trivial⟩ ?_))))))))
 ·exact oa [] fun D J w hs=>Qae QcS rfl (Zz hs)
 ·exact oa [0] fun D J w hs=>QaE (V:=.slice aa la.length ca) QfL hs 1 rfl rfl rfl (Zz hs)
 ·exact oa [] fun D J w hs=>Qae QcS rfl (Zz hs)
 ·exact oa [2] fun D J w hs=>QaE (V:=.slice ab lb.length cb) QfL hs 2 rfl rfl rfl (Zz hs)
 ·exact oa [1] fun D J w hs=>Qad (V:=.slice aa la.length ca) rfl (Zz hs)
 ·exact oa [3] fun D J w hs=>Qad (V:=.slice ab lb.length cb) rfl (Zz hs)
 rintro J1 w5 J2 hJ hs
 replace hJ:J2=upd (upd (mix [9,10,11,12,6,7] J1 _) 6 (.slice aa la.length ca)) 7 (.slice ab lb.length cb):=hJ
 subst hJ
 refine Qag (Qam (QaA (fun J μ J' w'=>∃ (Jo:Env) (R1:List Line) (R2:List Line) (I:List Int) (out:List Dif) (a6:Option Addr) (cb6:Nat) (a7:Option Addr) (cb7:Nat),J'=upd (upd (mix ([6,7,8]++sq 13 97) Jo J) 6 (.slice a6 R1.length cb6)) 7 (.slice a7 R2.length cb7)/\(DifI la lb R1 R2 I)/\(out=L++I.flatMap (QgP vb la lb))/\(∀ (w1:World) (L1:List Res),Own w S w1 L1->Rd w1 (.slice a6 R1.length cb6) 2 (R1.map lc))/\(∀ (w1:World) (L1:List Res),Own w S w1 L1->Rd w1 (.slice a7 R2.length cb7) 2 (R2.map lc))/\(R1.length<=la.length/\R2.length<=lb.length)/\(out.length+(R1.length+R2.length)<=L.length+(la.length+lb.length))/\μ=R1.length+R2.length/\Own w S w' [Qew 60 83 b out,blk b1 [I7 va,.slice aa la.length ca,.bool ao,.int .u32 at_] 49,blk b3 [I7 vb,.slice ab lb.length cb,.bool bo,.int .u32 bt] 49]) ?_ ?_))
 ·exact ⟨_,_,la,lb,[],L,aa,ca,ab,cb,Qai (Qai (Qao (ds:=([6,7,8]++sq 13 97)) (Agr.refl _ _)) rfl) rfl,(Qlk _ _),(by simp),hva,hvb,(by omega),(by omega),rfl,hs⟩
 rintro μ J' w6 ⟨Jo,R1,R2,I,out,a6,cb6,a7,cb7,rfl,hdi,hout,hv6,hv7,hll,hol,rfl,hs⟩
 have hrr:=QoX hra hrb hdi
 have hmm:=Qn8 hdi
 refine Qag (Qag (Qbj [some 13,some 14,some 15,some 16,some 17,some 18,some 19,some 20] [] [0,1,3,7,15,31,63,127] [pv (.slice a6 R1.length cb6),pv (I6 ((R1.length:Nat):Int)),pv (.bool (decide (0<((R1.length:Nat):Int)))),pv (.bool (decide (0<((R1.length:Nat):Int)))),pg ((decide (0<((R1.length:Nat):Int))) == false) (.slice a7 R2.length cb7),pg ((decide (0<((R1.length:Nat):Int))) == false) (I6 ((R2.length:Nat):Int)),pg ((decide (0<((R1.length:Nat):Int))) == false) (.bool (decide (0<((R2.length:Nat):Int)))),pv (.bool ((decide (0<((R1.length:Nat):Int)))||(decide (0<((R2.length:Nat):Int)))))] (fun _ _=>_) [7] (by kernel_rfl) hs ⟨?_,?_,?_,?_,?_,?_,?_,?_,trivial⟩ ?_))
 ·exact oa [] fun D J w hs=>Qac (V:=.slice a6 R1.length cb6) rfl (Zz hs)
 ·exact oa [0] fun D J w hs=>Qa2 (n:=R1.length) Qdc (hv6 _ _ hs) (by simp) rfl (Zz hs)
 ·exact oa [1] fun D J w hs=>QbY rfl rfl (Zz hs)
 ·exact oa [2] fun D J w hs=>Qac (V:=.bool (decide (0<((R1.length:Nat):Int)))) rfl (Zz hs)
 ·exact og [3] fun D J w hG hs=>Qac (V:=.slice a7 R2.length cb7) rfl (Zz hs)
 ·exact oy [3,4] [4] fun D J w hG hs=>Qa2 (n:=R2.length) Qdc (hv7 _ _ hs) (by simp) rfl (Zz hs)
 ·exact oy [3,5] [5] fun D J w hG hs=>QbY rfl rfl (Zz hs)
 ·exact oa [3,6] fun D J w hs=>Qb4 (h':=decide (0<((R2.length:Nat):Int))) rfl rfl rfl (Zz hs)
 rintro J1 w7 J2 hJ hs
 replace hJ:J2=upd (mix (sq 13 8) J1 _) 20 (.bool ((decide (0<((R1.length:Nat):Int)))||(decide (0<((R2.length:Nat):Int))))):=hJ
 subst hJ
 refine Qan (t:=(decide (0<((R1.length:Nat):Int)))||(decide (0<((R2.length:Nat):Int)))) rfl (fun c8=>?_) (fun c8=>?_)
 ·
  refine Qap (Qam (Qag (Qab (Qaa (Qae QhQ rfl (Qaa (QaE (V:=I7 vb) Qar hs 2 rfl rfl rfl (Qaa (Qbw (vs:=[(0,I7 vb)]) (cs:=dfc (⟨vb,0,false,0,0⟩:Dif)) QrC (rfl) rfl (Qaa (QaM (cs:=dfc (⟨0,0,false,0,0⟩:Dif)) Qty rfl hs fun b9 w10 hs=>(Qaa (QcK (V:=.agg (dfc (⟨vb,0,false,0,0⟩:Dif)).toArray) (vs:=dfc (⟨vb,0,false,0,0⟩:Dif)) (cs':=dfc (⟨vb,0,false,0,0⟩:Dif)) Qf7.1 hs 3 rfl rfl rfl rfl rfl (QQ8 rfl) (QdJ _) (QaB rfl) fun w11 hs=>?_)))))))))))))
  replace hs:Own w S w11 [Qew 60 83 b out,blk b1 [I7 va,.slice aa la.length ca,.bool ao,.int .u32 at_] 49,blk b3 [I7 vb,.slice ab lb.length cb,.bool bo,.int .u32 bt] 49,blk b9 (dfc (⟨vb,0,false,0,0⟩:Dif)) 83]:=hs
  refine Qaf (Qag (Qam (Qag (QaI HM [some 44,some 45,some 46,some 47,some 48,some 49,some 50,some 51,some 52,some 53,some 54,some 55,some 56,some 57,some 58,some 59,some 60,some 61,some 62,some 43] [] [0,1,3,7,15,31,63,127,255,511,1023,2047,255,4351,12543,28927,65535,131071,262143,524287] [pv (.slice a7 R2.length cb7),pv (I6 ((R2.length:Nat):Int)),pv (.bool (decide (((R2.length:Nat):Int)=0))),pv (.bool (decide (((R2.length:Nat):Int)=0))),pg ((decide (((R2.length:Nat):Int)=0)) == false) (.slice a6 R1.length cb6),pg ((decide (((R2.length:Nat):Int)=0)) == false) (I6 ((R1.length:Nat):Int)),pg ((decide (((R2.length:Nat):Int)=0)) == false) (.bool (decide (0<((R1.length:Nat):Int)))),pg ((decide (((R2.length:Nat):Int)=0)) == false) (.bool (decide (0<((R1.length:Nat):Int)))),pg (((decide (((R2.length:Nat):Int)=0)) == false)&&((decide (0<((R1.length:Nat):Int))) == true)) (.slice a6 R1.length cb6),pg (((decide (((R2.length:Nat):Int)=0)) == false)&&((decide (0<((R1.length:Nat):Int))) == true)) (.pointer (some ⟨bkS (.slice a6 R1.length cb6),ofS (.slice a6 R1.length cb6)+(0:Int).toNat*2,none⟩)),pg (((decide (((R2.length:Nat):Int)=0)) == false)&&((decide (0<((R1.length:Nat):Int))) == true)) (.pointer (some ⟨bkS (.slice a6 R1.length cb6),ofS (.slice a6 R1.length cb6)+(0:Int).toNat*2+0,none⟩)),pg (((decide (((R2.length:Nat):Int)=0)) == false)&&((decide (0<((R1.length:Nat):Int))) == true)) (I7 ((gd R1 0).item)),pg (((decide (((R2.length:Nat):Int)=0)) == false)&&((decide (0<((R1.length:Nat):Int))) == true)) (.slice a7 R2.length cb7),pg (((decide (((R2.length:Nat):Int)=0)) == false)&&((decide (0<((R1.length:Nat):Int))) == true)) (.pointer (some ⟨bkS (.slice a7 R2.length cb7),ofS (.slice a7 R2.length cb7)+(0:Int).toNat*2,none⟩)),pg (((decide (((R2.length:Nat):Int)=0)) == false)&&((decide (0<((R1.length:Nat):Int))) == true)) (.pointer (some ⟨bkS (.slice a7 R2.length cb7),ofS (.slice a7 R2.length cb7)+(0:Int).toNat*2+0,none⟩)),pg (((decide (((R2.length:Nat):Int)=0)) == false)&&((decide (0<((R1.length:Nat):Int))) == true)) (I7 ((gd R2 0).item)),pg (((decide (((R2.length:Nat):Int)=0)) == false)&&((decide (0<((R1.length:Nat):Int))) == true)) (.bool (decide ((gd R1 0).item<(gd R2 0).item))),pg ((decide (((R2.length:Nat):Int)=0)) == false) (.bool ((decide (0<((R1.length:Nat):Int)))&&(decide ((gd R1 0).item<(gd R2 0).item)))),pv (.bool ((decide (((R2.length:Nat):Int)=0))||((decide (0<((R1.length:Nat):Int)))&&(decide ((gd R1 0).item<(gd R2 0).item))))),pv (.bool ((decide (((R2.length:Nat):Int)=0))||((decide (0<((R1.length:Nat):Int)))&&(decide ((gd R1 0).item<(gd R2 0).item)))))] (fun _ _=>_) [19] (by kernel_rfl) hs ⟨?_,?_,?_,?_,?_,?_,?_,?_,?_,?_,?_,?_,?_,?_,?_,?_,?_,?_,?_,?_,trivial⟩ ?_))))
  ·exact oa [] fun D J w hs=>Qac (V:=.slice a7 R2.length cb7) rfl (Zz hs)
  ·exact oa [0] fun D J w hs=>Qa2 (n:=R2.length) Qdc (hv7 _ _ hs) (by simp) rfl (Zz hs)
  ·exact oa [1] fun D J w hs=>QaS rfl rfl (Zz hs)
  ·exact oa [2] fun D J w hs=>Qac (V:=.bool (decide (((R2.length:Nat):Int)=0))) rfl (Zz hs)
  ·exact og [3] fun D J w hG hs=>Qac (V:=.slice a6 R1.length cb6) rfl (Zz hs)
  ·exact oy [3,4] [4] fun D J w hG hs=>Qa2 (n:=R1.length) Qdc (hv6 _ _ hs) (by simp) rfl (Zz hs)
  ·exact oy [3,5] [5] fun D J w hG hs=>QbY rfl rfl (Zz hs)
  ·exact oy [3,6] [6] fun D J w hG hs=>Qac (V:=.bool (decide (0<((R1.length:Nat):Int)))) rfl (Zz hs)
  ·exact og [7] fun D J w hG hs=>Qac (V:=.slice a6 R1.length cb6) rfl (Zz hs)
  ·refine oy [7,8] [8] fun D J w hG hs=>?_
   have hgd0:=QQ2 (eq_of_beq (QbD (hG)))
   have hgd1:=QQ1 (eq_of_beq (QbF (hG)))
   exact Qaw Qdc Qcs.1 (hv6 _ _ hs) rfl rfl (by decide) (by rw [QQ6];omega) (Zz hs)
  ·exact oy [7,9] [9] fun D J w hG hs=>Qae Qc2 rfl (Zz hs)
  ·refine oy [7,10] [10] fun D J w hG hs=>?_
   have hgd0:=QQ2 (eq_of_beq (QbD (hG)))
   have hgd1:=QQ1 (eq_of_beq (QbF (hG)))
   exact QaR (j:=0) (V:=.int .u16 ((gd R1 0).item)) 0 Qar (hv6 _ _ hs) (QaT (by omega)) rfl rfl (by omega) (Zz hs)
  ·exact og [7] fun D J w hG hs=>Qac (V:=.slice a7 R2.length cb7) rfl (Zz hs)
  ·refine oy [7,12] [12] fun D J w hG hs=>?_
   have hgd0:=QQ2 (eq_of_beq (QbD (hG)))
   have hgd1:=QQ1 (eq_of_beq (QbF (hG)))
   exact Qaw Qdc Qcs.1 (hv7 _ _ hs) rfl rfl (by decide) (by rw [QQ6];omega) (Zz hs)
  ·exact oy [7,13] [13] fun D J w hG hs=>Qae Qc2 rfl (Zz hs)
  ·refine oy [7,14] [14] fun D J w hG hs=>?_
   have hgd0:=QQ2 (eq_of_beq (QbD (hG)))
   have hgd1:=QQ1 (eq_of_beq (QbF (hG)))
   exact QaR (j:=0) (V:=.int .u16 ((gd R2 0).item)) 0 Qar (hv7 _ _ hs) (QaT (by omega)) rfl rfl (by omega) (Zz hs)
  ·exact oy [7,11,15] [11,15] fun D J w hG hs=>QaQ rfl rfl (Zz hs)
  ·exact oy [3,7,16] [7] fun D J w hG hs=>Qgz (h':=decide ((gd R1 0).item<(gd R2 0).item)) (G:=((decide (((R2.length:Nat):Int)=0)) == false)) hG rfl rfl rfl (Zz hs)
  ·exact oa [3,17] fun D J w hs=>Qb4 (h':=(decide (0<((R1.length:Nat):Int)))&&(decide ((gd R1 0).item<(gd R2 0).item))) rfl rfl rfl (Zz hs)
  ·exact oa [18] fun D J w hs=>Qad (V:=.bool ((decide (((R2.length:Nat):Int)=0))||((decide (0<((R1.length:Nat):Int)))&&(decide ((gd R1 0).item<(gd R2 0).item))))) rfl (Zz hs)
  rintro J1 w12 J2 hJ hs
  replace hJ:J2=upd (mix (sq 44 19++[43]) J1 _) 43 (.bool ((decide (((R2.length:Nat):Int)=0))||((decide (0<((R1.length:Nat):Int)))&&(decide ((gd R1 0).item<(gd R2 0).item))))):=hJ
  subst hJ
  refine Qan (t:=(decide (((R2.length:Nat):Int)=0))||((decide (0<((R1.length:Nat):Int)))&&(decide ((gd R1 0).item<(gd R2 0).item)))) rfl (fun c13=>?_) (fun c13=>?_)
  ·
   refine Qag ?_
   have ⟨hn9,hz9⟩:=Qva c8 c13
   refine QaI HM [some 63,some 64,some 65,some 66,some 67,some 68,some 69,some 70,some 71,none,some 72,none] [] [0,1,3,7,0,16,48,112,15,271,1023,2047] [pv (.slice a6 R1.length cb6),pv (.pointer (some ⟨bkS (.slice a6 R1.length cb6),ofS (.slice a6 R1.length cb6)+(0:Int).toNat*2,none⟩)),pv (.pointer (some ⟨bkS (.slice a6 R1.length cb6),ofS (.slice a6 R1.length cb6)+(0:Int).toNat*2+0,none⟩)),pv (I7 ((gd R1 0).item)),pv (.slice a6 R1.length cb6),pv (.pointer (some ⟨bkS (.slice a6 R1.length cb6),ofS (.slice a6 R1.length cb6)+(0:Int).toNat*2,none⟩)),pv (.pointer (some ⟨bkS (.slice a6 R1.length cb6),ofS (.slice a6 R1.length cb6)+(0:Int).toNat*2+1,none⟩)),pv (.int .u32 ((gd R1 0).qty)),pv (Pq b9 (0+1)),pn,pv (Pq b9 (0+3)),pn] (fun D J=>[Qew 60 83 b out,blk b1 [I7 va,.slice aa la.length ca,.bool ao,.int .u32 at_] 49,blk b3 [I7 vb,.slice ab lb.length cb,.bool bo,.int .u32 bt] 49,cond (D 11) (blk b9 (dfc (⟨vb,(gd R1 0).item,false,(gd R1 0).qty,0⟩:Dif)) 83) (cond (D 9) (blk b9 (dfc (⟨vb,(gd R1 0).item,false,0,0⟩:Dif)) 83) (blk b9 (dfc (⟨vb,0,false,0,0⟩:Dif)) 83))]) [] (by kernel_rfl) hs ⟨?_,?_,?_,?_,?_,?_,?_,?_,?_,?_,?_,?_,trivial⟩ ?_
   ·exact oa [] fun D J w hs=>Qac (V:=.slice a6 R1.length cb6) rfl (Zz hs)
   ·exact oa [0] fun D J w hs=>Qaw Qdc Qcs.1 (hv6 _ _ hs) rfl rfl (by decide) (by rw [QQ6];omega) (Zz hs)
   ·exact oa [1] fun D J w hs=>Qae Qc2 rfl (Zz hs)
   ·exact oa [2] fun D J w hs=>QaR (j:=0) (V:=.int .u16 ((gd R1 0).item)) 0 Qar (hv6 _ _ hs) (QaT (by omega)) rfl rfl (by omega) (Zz hs)
   ·exact oa [] fun D J w hs=>Qac (V:=.slice a6 R1.length cb6) rfl (Zz hs)
   ·exact oa [4] fun D J w hs=>Qaw Qdc Qcs.1 (hv6 _ _ hs) rfl rfl (by decide) (by rw [QQ6];omega) (Zz hs)
   ·exact oa [5] fun D J w hs=>Qae Qe4 rfl (Zz hs)
   ·exact oa [6] fun D J w hs=>QaR (j:=1) (V:=.int .u32 ((gd R1 0).qty)) 0 Qa6 (hv6 _ _ hs) (QaT (by omega)) rfl rfl (by omega) (Zz hs)
   ·exact oa [] fun D J w hs=>Qae Qje rfl (Zz hs)
   ·exact ob [3,8] [11] rfl rfl fun D J w hs=>Qc7 (V:=I7 ((gd R1 0).item)) (cs':=dfc (⟨vb,(gd R1 0).item,false,0,0⟩:Dif)) Qar hs 3 rfl rfl rfl rfl (QQ8 rfl) rfl fun _ hs=>⟨trivial,hs⟩
   ·exact oa [] fun D J w hs=>Qae Qgk rfl (Zz hs)
   ·exact oa [7,9,10] fun D J w hs=>Qc7 (V:=.int .u32 ((gd R1 0).qty)) (cs':=dfc (⟨vb,(gd R1 0).item,false,(gd R1 0).qty,0⟩:Dif)) Qa6 hs 3 rfl rfl rfl rfl (QQ8 rfl) rfl fun _ hs=>⟨trivial,hs⟩
   rintro J1 w16 J2 hJ hs
   replace hJ:J2=mix (sq 63 10) J1 _:=hJ
   replace hs:Own w S w16 [Qew 60 83 b out,blk b1 [I7 va,.slice aa la.length ca,.bool ao,.int .u32 at_] 49,blk b3 [I7 vb,.slice ab lb.length cb,.bool bo,.int .u32 bt] 49,blk b9 (dfc (⟨vb,(gd R1 0).item,false,(gd R1 0).qty,0⟩:Dif)) 83]:=hs
   subst hJ
   refine Qab (Qaa (Qac (V:=.slice a6 R1.length cb6) rfl (Qaa (QqD (l:=1) (h:=R1.length) (m:=cb6) (n':=(R1.drop 1).length) Qkl Qcs.1 (hv6 _ _ hs) rfl (.inr ⟨_,_,rfl,rfl⟩) (.inl ⟨rfl,rfl⟩) (.inl ⟨rfl,rfl⟩) (by omega) (by omega) (Nat.le_trans (show R1.length<=R1.length by omega) (Rd.roomM (hv6 _ _ hs))) (Nat.le_refl _) (by simp only [List.length_take,List.length_drop]<;>omega) ?_))))
   refine Qaa (Qad (V:=.slice (sla a6 1 cb6 2) ((R1.drop 1).length) (cb6-1)) rfl (Qaf (Qag (Qab (Qaa (Qae Qgk rfl (Qaa (QaE (V:=.int .u32 ((gd R1 0).qty)) Qa6 hs 3 rfl rfl rfl (Qaa (Qae Qge rfl (Qaa (QaE (V:=.int .u32 0) Qa6 hs 3 rfl rfl rfl (Qaa (Qch rfl rfl (Qaf (Qan (t:=!decide ((gd R1 0).qty=0)) rfl (fun c17=>?_) (fun c17=>?_)))))))))))))))))
   ·
    replace c17:=Qbn c17
    replace c17:=QQ2 c17
    refine Qab (Qaa (Qac (V:=.func (.func 65) #[] #[Pq b 0]) rfl (Qaa (QaG (cs:=dfc (⟨vb,(gd R1 0).item,false,(gd R1 0).qty,0⟩:Dif)) Qf7 hs 3 rfl rfl rfl (Qaa (Qob (α:=Unit) (vs:=[.agg (dfc (⟨vb,(gd R1 0).item,false,(gd R1 0).qty,0⟩:Dif)).toArray]) (cs:=[Pq b 0]) (V:=fun _=>.tuple #[]) (R:=Qew 60 83 b out) (R':=fun _=>Qew 60 83 b (out++[(⟨vb,(gd R1 0).item,false,(gd R1 0).qty,0⟩:Dif)])) (Lo:=fun _=>[]) (F:=fun _ _=>True) Qou rfl rfl hs 0 rfl (fun S hS hlS=>QfX _ S b out (⟨vb,(gd R1 0).item,false,(gd R1 0).qty,0⟩:Dif) hS hlS (by omega)) fun _ w18 hs _=>(Qaf ?_)))))))
    have hd9:=Qmw hra hrb hdi (by omega) (QfY hrr.2 hz9)
    refine ⟨_,?_,_,R1.drop 1,R2,I++[(gd R1 0).item],(out++[(⟨vb,(gd R1 0).item,false,(gd R1 0).qty,0⟩:Dif)]),(sla a6 1 cb6 2),cb6-1,a7,cb7,Qai (Qai (Qao (ds:=([6,7,8]++sq 13 97)) (by repeat (first|exact Agr.refl _ _|refine Agr.upd ?_ rfl|refine Agr.mix ?_ rfl))) rfl) rfl,hd9.1,(QfU hout hd9.2.1 hd9.2.2 c17),(fun w1 L1 h=>Rd.dropM (hv6 w1 L1 h) 1 (by omega) _ (by rw [List.length_drop])),hv7,(by simp only [List.length_drop];omega),(by simp only [QQ7,List.length_singleton,List.length_drop];omega),rfl,hs.take 3⟩
    (simp only [List.length_drop];omega)
   replace c17:=Qbf c17
   replace c17:=QQ1 c17
   refine Qap ?_
   have hd9:=Qmw hra hrb hdi (by omega) (QfY hrr.2 hz9)
   refine ⟨_,?_,_,R1.drop 1,R2,I++[(gd R1 0).item],out,(sla a6 1 cb6 2),cb6-1,a7,cb7,Qai (Qai (Qao (ds:=([6,7,8]++sq 13 97)) (by repeat (first|exact Agr.refl _ _|refine Agr.upd ?_ rfl|refine Agr.mix ?_ rfl))) rfl) rfl,hd9.1,(QkG hout hd9.2.1 hd9.2.2 c17),(fun w1 L1 h=>Rd.dropM (hv6 w1 L1 h) 1 (by omega) _ (by rw [List.length_drop])),hv7,(by simp only [List.length_drop];omega),(by simp only [List.length_drop];omega),rfl,hs.take 3⟩
   (simp only [List.length_drop];omega)
  have c13r:=Qfk c13
  replace c13:=Qfj c13
  replace c13:=QQ2 c13
  refine Qag ?_
  have hn9:0<R2.length:=by omega
  refine QaI HM [some 76,some 77,some 78,some 79,some 80,some 81,some 82,some 83,some 84,some 85,some 86,some 87,some 88,some 89,some 75] [] [0,1,3,7,15,31,63,127,15,271,783,1807,4095,8191,16383] [pv (.slice a6 R1.length cb6),pv (I6 ((R1.length:Nat):Int)),pv (.bool (decide (((R1.length:Nat):Int)=0))),pv (.bool (decide (((R1.length:Nat):Int)=0))),pg ((decide (((R1.length:Nat):Int)=0)) == false) (.slice a7 R2.length cb7),pg ((decide (((R1.length:Nat):Int)=0)) == false) (.pointer (some ⟨bkS (.slice a7 R2.length cb7),ofS (.slice a7 R2.length cb7)+(0:Int).toNat*2,none⟩)),pg ((decide (((R1.length:Nat):Int)=0)) == false) (.pointer (some ⟨bkS (.slice a7 R2.length cb7),ofS (.slice a7 R2.length cb7)+(0:Int).toNat*2+0,none⟩)),pg ((decide (((R1.length:Nat):Int)=0)) == false) (I7 ((gd R2 0).item)),pg ((decide (((R1.length:Nat):Int)=0)) == false) (.slice a6 R1.length cb6),pg ((decide (((R1.length:Nat):Int)=0)) == false) (.pointer (some ⟨bkS (.slice a6 R1.length cb6),ofS (.slice a6 R1.length cb6)+(0:Int).toNat*2,none⟩)),pg ((decide (((R1.length:Nat):Int)=0)) == false) (.pointer (some ⟨bkS (.slice a6 R1.length cb6),ofS (.slice a6 R1.length cb6)+(0:Int).toNat*2+0,none⟩)),pg ((decide (((R1.length:Nat):Int)=0)) == false) (I7 ((gd R1 0).item)),pg ((decide (((R1.length:Nat):Int)=0)) == false) (.bool (decide ((gd R2 0).item<(gd R1 0).item))),pv (.bool ((decide (((R1.length:Nat):Int)=0))||(decide ((gd R2 0).item<(gd R1 0).item)))),pv (.bool ((decide (((R1.length:Nat):Int)=0))||(decide ((gd R2 0).item<(gd R1 0).item))))] (fun _ _=>_) [14] (by kernel_rfl) hs ⟨?_,?_,?_,?_,?_,?_,?_,?_,?_,?_,?_,?_,?_,?_,?_,trivial⟩ ?_
  ·exact oa [] fun D J w hs=>Qac (V:=.slice a6 R1.length cb6) rfl (Zz hs)
  ·exact oa [0] fun D J w hs=>Qa2 (n:=R1.length) Qdc (hv6 _ _ hs) (by simp) rfl (Zz hs)
  ·exact oa [1] fun D J w hs=>QaS rfl rfl (Zz hs)
  ·exact oa [2] fun D J w hs=>Qac (V:=.bool (decide (((R1.length:Nat):Int)=0))) rfl (Zz hs)
  ·exact og [3] fun D J w hG hs=>Qac (V:=.slice a7 R2.length cb7) rfl (Zz hs)
  ·refine oy [3,4] [4] fun D J w hG hs=>?_
   have hgd:=QQ2 (eq_of_beq (hG))
   exact Qaw Qdc Qcs.1 (hv7 _ _ hs) rfl rfl (by decide) (by rw [QQ6];omega) (Zz hs)
  ·exact oy [3,5] [5] fun D J w hG hs=>Qae Qc2 rfl (Zz hs)
  ·refine oy [3,6] [6] fun D J w hG hs=>?_
   have hgd:=QQ2 (eq_of_beq (hG))
   exact QaR (j:=0) (V:=.int .u16 ((gd R2 0).item)) 0 Qar (hv7 _ _ hs) (QaT (by omega)) rfl rfl (by omega) (Zz hs)
  ·exact og [3] fun D J w hG hs=>Qac (V:=.slice a6 R1.length cb6) rfl (Zz hs)
  ·refine oy [3,8] [8] fun D J w hG hs=>?_
   have hgd:=QQ2 (eq_of_beq (hG))
   exact Qaw Qdc Qcs.1 (hv6 _ _ hs) rfl rfl (by decide) (by rw [QQ6];omega) (Zz hs)
  ·exact oy [3,9] [9] fun D J w hG hs=>Qae Qc2 rfl (Zz hs)
  ·refine oy [3,10] [10] fun D J w hG hs=>?_
   have hgd:=QQ2 (eq_of_beq (hG))
   exact QaR (j:=0) (V:=.int .u16 ((gd R1 0).item)) 0 Qar (hv6 _ _ hs) (QaT (by omega)) rfl rfl (by omega) (Zz hs)
  ·exact oy [3,7,11] [7,11] fun D J w hG hs=>QaQ rfl rfl (Zz hs)
  ·exact oa [3,12] fun D J w hs=>Qb4 (h':=decide ((gd R2 0).item<(gd R1 0).item)) rfl rfl rfl (Zz hs)
  ·exact oa [13] fun D J w hs=>Qad (V:=.bool ((decide (((R1.length:Nat):Int)=0))||(decide ((gd R2 0).item<(gd R1 0).item)))) rfl (Zz hs)
  rintro J1 w19 J2 hJ hs
  replace hJ:J2=upd (mix (sq 76 14++[75]) J1 _) 75 (.bool ((decide (((R1.length:Nat):Int)=0))||(decide ((gd R2 0).item<(gd R1 0).item)))):=hJ
  subst hJ
  refine Qan (t:=(decide (((R1.length:Nat):Int)=0))||(decide ((gd R2 0).item<(gd R1 0).item))) rfl (fun c20=>?_) (fun c20=>?_)
  ·
   refine Qag ?_
   have hz9:=QvP hn9 c20
   refine QaI HM [some 90,some 91,some 92,some 93,some 94,some 95,some 96,some 97,some 98,none,some 99,none] [] [0,1,3,7,0,16,48,112,15,271,1023,2047] [pv (.slice a7 R2.length cb7),pv (.pointer (some ⟨bkS (.slice a7 R2.length cb7),ofS (.slice a7 R2.length cb7)+(0:Int).toNat*2,none⟩)),pv (.pointer (some ⟨bkS (.slice a7 R2.length cb7),ofS (.slice a7 R2.length cb7)+(0:Int).toNat*2+0,none⟩)),pv (I7 ((gd R2 0).item)),pv (.slice a7 R2.length cb7),pv (.pointer (some ⟨bkS (.slice a7 R2.length cb7),ofS (.slice a7 R2.length cb7)+(0:Int).toNat*2,none⟩)),pv (.pointer (some ⟨bkS (.slice a7 R2.length cb7),ofS (.slice a7 R2.length cb7)+(0:Int).toNat*2+1,none⟩)),pv (.int .u32 ((gd R2 0).qty)),pv (Pq b9 (0+1)),pn,pv (Pq b9 (0+4)),pn] (fun D J=>[Qew 60 83 b out,blk b1 [I7 va,.slice aa la.length ca,.bool ao,.int .u32 at_] 49,blk b3 [I7 vb,.slice ab lb.length cb,.bool bo,.int .u32 bt] 49,cond (D 11) (blk b9 (dfc (⟨vb,(gd R2 0).item,false,0,(gd R2 0).qty⟩:Dif)) 83) (cond (D 9) (blk b9 (dfc (⟨vb,(gd R2 0).item,false,0,0⟩:Dif)) 83) (blk b9 (dfc (⟨vb,0,false,0,0⟩:Dif)) 83))]) [] (by kernel_rfl) hs ⟨?_,?_,?_,?_,?_,?_,?_,?_,?_,?_,?_,?_,trivial⟩ ?_
   ·exact oa [] fun D J w hs=>Qac (V:=.slice a7 R2.length cb7) rfl (Zz hs)
   ·exact oa [0] fun D J w hs=>Qaw Qdc Qcs.1 (hv7 _ _ hs) rfl rfl (by decide) (by rw [QQ6];omega) (Zz hs)
   ·exact oa [1] fun D J w hs=>Qae Qc2 rfl (Zz hs)
   ·exact oa [2] fun D J w hs=>QaR (j:=0) (V:=.int .u16 ((gd R2 0).item)) 0 Qar (hv7 _ _ hs) (QaT (by omega)) rfl rfl (by omega) (Zz hs)
   ·exact oa [] fun D J w hs=>Qac (V:=.slice a7 R2.length cb7) rfl (Zz hs)
   ·exact oa [4] fun D J w hs=>Qaw Qdc Qcs.1 (hv7 _ _ hs) rfl rfl (by decide) (by rw [QQ6];omega) (Zz hs)
   ·exact oa [5] fun D J w hs=>Qae Qe4 rfl (Zz hs)
   ·exact oa [6] fun D J w hs=>QaR (j:=1) (V:=.int .u32 ((gd R2 0).qty)) 0 Qa6 (hv7 _ _ hs) (QaT (by omega)) rfl rfl (by omega) (Zz hs)
   ·exact oa [] fun D J w hs=>Qae Qje rfl (Zz hs)
   ·exact ob [3,8] [11] rfl rfl fun D J w hs=>Qc7 (V:=I7 ((gd R2 0).item)) (cs':=dfc (⟨vb,(gd R2 0).item,false,0,0⟩:Dif)) Qar hs 3 rfl rfl rfl rfl (QQ8 rfl) rfl fun _ hs=>⟨trivial,hs⟩
   ·exact oa [] fun D J w hs=>Qae Qge rfl (Zz hs)
   ·exact oa [7,9,10] fun D J w hs=>Qc7 (V:=.int .u32 ((gd R2 0).qty)) (cs':=dfc (⟨vb,(gd R2 0).item,false,0,(gd R2 0).qty⟩:Dif)) Qa6 hs 3 rfl rfl rfl rfl (QQ8 rfl) rfl fun _ hs=>⟨trivial,hs⟩
   rintro J1 w23 J2 hJ hs
   replace hJ:J2=mix (sq 90 10) J1 _:=hJ
   replace hs:Own w S w23 [Qew 60 83 b out,blk b1 [I7 va,.slice aa la.length ca,.bool ao,.int .u32 at_] 49,blk b3 [I7 vb,.slice ab lb.length cb,.bool bo,.int .u32 bt] 49,blk b9 (dfc (⟨vb,(gd R2 0).item,false,0,(gd R2 0).qty⟩:Dif)) 83]:=hs
   subst hJ
   refine Qab (Qaa (Qac (V:=.slice a7 R2.length cb7) rfl (Qaa (QqD (l:=1) (h:=R2.length) (m:=cb7) (n':=(R2.drop 1).length) Qkl Qcs.1 (hv7 _ _ hs) rfl (.inr ⟨_,_,rfl,rfl⟩) (.inl ⟨rfl,rfl⟩) (.inl ⟨rfl,rfl⟩) (by omega) (by omega) (Nat.le_trans (show R2.length<=R2.length by omega) (Rd.roomM (hv7 _ _ hs))) (Nat.le_refl _) (by simp only [List.length_take,List.length_drop]<;>omega) ?_))))
   refine Qaa (Qad (V:=.slice (sla a7 1 cb7 2) ((R2.drop 1).length) (cb7-1)) rfl (Qaf (Qag (Qab (Qaa (Qae Qgk rfl (Qaa (QaE (V:=.int .u32 0) Qa6 hs 3 rfl rfl rfl (Qaa (Qae Qge rfl (Qaa (QaE (V:=.int .u32 ((gd R2 0).qty)) Qa6 hs 3 rfl rfl rfl (Qaa (Qch rfl rfl (Qaf (Qan (t:=!decide (0=(gd R2 0).qty)) rfl (fun c24=>?_) (fun c24=>?_)))))))))))))))))
   ·
    replace c24:=Qbn c24
    replace c24:=QQ2 c24
    refine Qab (Qaa (Qac (V:=.func (.func 65) #[] #[Pq b 0]) rfl (Qaa (QaG (cs:=dfc (⟨vb,(gd R2 0).item,false,0,(gd R2 0).qty⟩:Dif)) Qf7 hs 3 rfl rfl rfl (Qaa (Qob (α:=Unit) (vs:=[.agg (dfc (⟨vb,(gd R2 0).item,false,0,(gd R2 0).qty⟩:Dif)).toArray]) (cs:=[Pq b 0]) (V:=fun _=>.tuple #[]) (R:=Qew 60 83 b out) (R':=fun _=>Qew 60 83 b (out++[(⟨vb,(gd R2 0).item,false,0,(gd R2 0).qty⟩:Dif)])) (Lo:=fun _=>[]) (F:=fun _ _=>True) Qou rfl rfl hs 0 rfl (fun S hS hlS=>QfX _ S b out (⟨vb,(gd R2 0).item,false,0,(gd R2 0).qty⟩:Dif) hS hlS (by omega)) fun _ w25 hs _=>(Qaf ?_)))))))
    have hd9:=Qqc hra hrb hdi (by omega) (QfY hrr.1 hz9)
    refine ⟨_,?_,_,R1,R2.drop 1,I++[(gd R2 0).item],(out++[(⟨vb,(gd R2 0).item,false,0,(gd R2 0).qty⟩:Dif)]),a6,cb6,(sla a7 1 cb7 2),cb7-1,Qai (Qai (Qao (ds:=([6,7,8]++sq 13 97)) (by repeat (first|exact Agr.refl _ _|refine Agr.upd ?_ rfl|refine Agr.mix ?_ rfl))) rfl) rfl,hd9.1,(QfU hout hd9.2.1 hd9.2.2 c24),hv6,(fun w1 L1 h=>Rd.dropM (hv7 w1 L1 h) 1 (by omega) _ (by rw [List.length_drop])),(by simp only [List.length_drop];omega),(by simp only [QQ7,List.length_singleton,List.length_drop];omega),rfl,hs.take 3⟩
    (simp only [List.length_drop];omega)
   replace c24:=Qbf c24
   replace c24:=QQ1 c24
   refine Qap ?_
   have hd9:=Qqc hra hrb hdi (by omega) (QfY hrr.1 hz9)
   refine ⟨_,?_,_,R1,R2.drop 1,I++[(gd R2 0).item],out,a6,cb6,(sla a7 1 cb7 2),cb7-1,Qai (Qai (Qao (ds:=([6,7,8]++sq 13 97)) (by repeat (first|exact Agr.refl _ _|refine Agr.upd ?_ rfl|refine Agr.mix ?_ rfl))) rfl) rfl,hd9.1,(QkG hout hd9.2.1 hd9.2.2 c24),hv6,(fun w1 L1 h=>Rd.dropM (hv7 w1 L1 h) 1 (by omega) _ (by rw [List.length_drop])),(by simp only [List.length_drop];omega),(by simp only [List.length_drop];omega),rfl,hs.take 3⟩
   (simp only [List.length_drop];omega)
  have c20r:=Qfk c20
  replace c20:=Qfj c20
  replace c20:=QQ2 c20
  replace c20r:=QQ2 c20r
  refine Qag ?_
  have hz9:=Qu2 c13r (by omega) (by omega)
  refine QaI HM [some 24,some 25,some 26,some 27,some 28,some 29,some 30,some 31,some 32,some 33,some 34,some 35,some 36,none,some 37,none,some 38,none] [] [0,1,3,7,0,16,48,112,0,256,768,1792,15,4111,12543,28927,65535,131071] [pv (.slice a6 R1.length cb6),pv (.pointer (some ⟨bkS (.slice a6 R1.length cb6),ofS (.slice a6 R1.length cb6)+(0:Int).toNat*2,none⟩)),pv (.pointer (some ⟨bkS (.slice a6 R1.length cb6),ofS (.slice a6 R1.length cb6)+(0:Int).toNat*2+0,none⟩)),pv (I7 ((gd R1 0).item)),pv (.slice a6 R1.length cb6),pv (.pointer (some ⟨bkS (.slice a6 R1.length cb6),ofS (.slice a6 R1.length cb6)+(0:Int).toNat*2,none⟩)),pv (.pointer (some ⟨bkS (.slice a6 R1.length cb6),ofS (.slice a6 R1.length cb6)+(0:Int).toNat*2+1,none⟩)),pv (.int .u32 ((gd R1 0).qty)),pv (.slice a7 R2.length cb7),pv (.pointer (some ⟨bkS (.slice a7 R2.length cb7),ofS (.slice a7 R2.length cb7)+(0:Int).toNat*2,none⟩)),pv (.pointer (some ⟨bkS (.slice a7 R2.length cb7),ofS (.slice a7 R2.length cb7)+(0:Int).toNat*2+1,none⟩)),pv (.int .u32 ((gd R2 0).qty)),pv (Pq b9 (0+1)),pn,pv (Pq b9 (0+3)),pn,pv (Pq b9 (0+4)),pn] (fun D J=>[Qew 60 83 b out,blk b1 [I7 va,.slice aa la.length ca,.bool ao,.int .u32 at_] 49,blk b3 [I7 vb,.slice ab lb.length cb,.bool bo,.int .u32 bt] 49,cond (D 17) (blk b9 (dfc (⟨vb,(gd R1 0).item,false,(gd R1 0).qty,(gd R2 0).qty⟩:Dif)) 83) (cond (D 15) (blk b9 (dfc (⟨vb,(gd R1 0).item,false,(gd R1 0).qty,0⟩:Dif)) 83) (cond (D 13) (blk b9 (dfc (⟨vb,(gd R1 0).item,false,0,0⟩:Dif)) 83) (blk b9 (dfc (⟨vb,0,false,0,0⟩:Dif)) 83)))]) [] (by kernel_rfl) hs ⟨?_,?_,?_,?_,?_,?_,?_,?_,?_,?_,?_,?_,?_,?_,?_,?_,?_,?_,trivial⟩ ?_
  ·exact oa [] fun D J w hs=>Qac (V:=.slice a6 R1.length cb6) rfl (Zz hs)
  ·exact oa [0] fun D J w hs=>Qaw Qdc Qcs.1 (hv6 _ _ hs) rfl rfl (by decide) (by rw [QQ6];omega) (Zz hs)
  ·exact oa [1] fun D J w hs=>Qae Qc2 rfl (Zz hs)
  ·exact oa [2] fun D J w hs=>QaR (j:=0) (V:=.int .u16 ((gd R1 0).item)) 0 Qar (hv6 _ _ hs) (QaT (by omega)) rfl rfl (by omega) (Zz hs)
  ·exact oa [] fun D J w hs=>Qac (V:=.slice a6 R1.length cb6) rfl (Zz hs)
  ·exact oa [4] fun D J w hs=>Qaw Qdc Qcs.1 (hv6 _ _ hs) rfl rfl (by decide) (by rw [QQ6];omega) (Zz hs)
  ·exact oa [5] fun D J w hs=>Qae Qe4 rfl (Zz hs)
  ·exact oa [6] fun D J w hs=>QaR (j:=1) (V:=.int .u32 ((gd R1 0).qty)) 0 Qa6 (hv6 _ _ hs) (QaT (by omega)) rfl rfl (by omega) (Zz hs)
  ·exact oa [] fun D J w hs=>Qac (V:=.slice a7 R2.length cb7) rfl (Zz hs)
  ·exact oa [8] fun D J w hs=>Qaw Qdc Qcs.1 (hv7 _ _ hs) rfl rfl (by decide) (by rw [QQ6];omega) (Zz hs)
  ·exact oa [9] fun D J w hs=>Qae Qe4 rfl (Zz hs)
  ·exact oa [10] fun D J w hs=>QaR (j:=1) (V:=.int .u32 ((gd R2 0).qty)) 0 Qa6 (hv7 _ _ hs) (QaT (by omega)) rfl rfl (by omega) (Zz hs)
  ·exact oa [] fun D J w hs=>Qae Qje rfl (Zz hs)
  ·exact ob [3,12] [15,17] rfl rfl fun D J w hs=>Qc7 (V:=I7 ((gd R1 0).item)) (cs':=dfc (⟨vb,(gd R1 0).item,false,0,0⟩:Dif)) Qar hs 3 rfl rfl rfl rfl (QQ8 rfl) rfl fun _ hs=>⟨trivial,hs⟩
  ·exact oa [] fun D J w hs=>Qae Qgk rfl (Zz hs)
  ·exact ob [7,13,14] [17] rfl rfl fun D J w hs=>Qc7 (V:=.int .u32 ((gd R1 0).qty)) (cs':=dfc (⟨vb,(gd R1 0).item,false,(gd R1 0).qty,0⟩:Dif)) Qa6 hs 3 rfl rfl rfl rfl (QQ8 rfl) rfl fun _ hs=>⟨trivial,hs⟩
  ·exact oa [] fun D J w hs=>Qae Qge rfl (Zz hs)
  ·exact oa [11,13,15,16] fun D J w hs=>Qc7 (V:=.int .u32 ((gd R2 0).qty)) (cs':=dfc (⟨vb,(gd R1 0).item,false,(gd R1 0).qty,(gd R2 0).qty⟩:Dif)) Qa6 hs 3 rfl rfl rfl rfl (QQ8 rfl) rfl fun _ hs=>⟨trivial,hs⟩
  rintro J1 w29 J2 hJ hs
  replace hJ:J2=mix (sq 24 15) J1 _:=hJ
  replace hs:Own w S w29 [Qew 60 83 b out,blk b1 [I7 va,.slice aa la.length ca,.bool ao,.int .u32 at_] 49,blk b3 [I7 vb,.slice ab lb.length cb,.bool bo,.int .u32 bt] 49,blk b9 (dfc (⟨vb,(gd R1 0).item,false,(gd R1 0).qty,(gd R2 0).qty⟩:Dif)) 83]:=hs
  subst hJ
  refine QaI HM [some 39,some 40,some 41,some 42,some 6,some 7] [] [0,1,0,4,3,31] [pv (.slice a6 R1.length cb6),pv (.slice (sla a6 1 cb6 2) ((R1.drop 1).length) (cb6-1)),pv (.slice a7 R2.length cb7),pv (.slice (sla a7 1 cb7 2) ((R2.drop 1).length) (cb7-1)),pv (.slice (sla a6 1 cb6 2) ((R1.drop 1).length) (cb6-1)),pv (.slice (sla a7 1 cb7 2) ((R2.drop 1).length) (cb7-1))] (fun _ _=>_) [5,4] (by kernel_rfl) hs ⟨?_,?_,?_,?_,?_,?_,trivial⟩ ?_
  ·exact ob [] [4] rfl rfl fun D J w hs=>Qac (V:=.slice a6 R1.length cb6) rfl (Zz hs)
  ·exact oa [0] fun D J w hs=>QqD (l:=1) (h:=R1.length) (m:=cb6) (n':=(R1.drop 1).length) Qkl Qcs.1 (hv6 _ _ hs) rfl (.inr ⟨_,_,rfl,rfl⟩) (.inl ⟨rfl,rfl⟩) (.inl ⟨rfl,rfl⟩) (by omega) (by omega) (Nat.le_trans (show R1.length<=R1.length by omega) (Rd.roomM (hv6 _ _ hs))) (Nat.le_refl _) (by simp only [List.length_take,List.length_drop]<;>omega) (Zz hs)
  ·exact ob [] [5] rfl rfl fun D J w hs=>Qac (V:=.slice a7 R2.length cb7) rfl (Zz hs)
  ·exact oa [2] fun D J w hs=>QqD (l:=1) (h:=R2.length) (m:=cb7) (n':=(R2.drop 1).length) Qkl Qcs.1 (hv7 _ _ hs) rfl (.inr ⟨_,_,rfl,rfl⟩) (.inl ⟨rfl,rfl⟩) (.inl ⟨rfl,rfl⟩) (by omega) (by omega) (Nat.le_trans (show R2.length<=R2.length by omega) (Rd.roomM (hv7 _ _ hs))) (Nat.le_refl _) (by simp only [List.length_take,List.length_drop]<;>omega) (Zz hs)
  ·exact oa [1] fun D J w hs=>Qad (V:=.slice (sla a6 1 cb6 2) ((R1.drop 1).length) (cb6-1)) rfl (Zz hs)
  ·exact oa [3] fun D J w hs=>Qad (V:=.slice (sla a7 1 cb7 2) ((R2.drop 1).length) (cb7-1)) rfl (Zz hs)
  rintro J1 w30 J2 hJ hs
  replace hJ:J2=upd (upd (mix [39,40,41,42,6,7] J1 _) 6 (.slice (sla a6 1 cb6 2) ((R1.drop 1).length) (cb6-1))) 7 (.slice (sla a7 1 cb7 2) ((R2.drop 1).length) (cb7-1)):=hJ
  subst hJ
  refine Qag (Qab (Qaa (Qae Qgk rfl (Qaa (QaE (V:=.int .u32 ((gd R1 0).qty)) Qa6 hs 3 rfl rfl rfl (Qaa (Qae Qge rfl (Qaa (QaE (V:=.int .u32 ((gd R2 0).qty)) Qa6 hs 3 rfl rfl rfl (Qaa (Qch rfl rfl (Qaf (Qan (t:=!decide ((gd R1 0).qty=(gd R2 0).qty)) rfl (fun c31=>?_) (fun c31=>?_))))))))))))))
  ·
   replace c31:=Qbn c31
   replace c31:=QQ2 c31
   refine Qab (Qaa (Qac (V:=.func (.func 65) #[] #[Pq b 0]) rfl (Qaa (QaG (cs:=dfc (⟨vb,(gd R1 0).item,false,(gd R1 0).qty,(gd R2 0).qty⟩:Dif)) Qf7 hs 3 rfl rfl rfl (Qaa (Qob (α:=Unit) (vs:=[.agg (dfc (⟨vb,(gd R1 0).item,false,(gd R1 0).qty,(gd R2 0).qty⟩:Dif)).toArray]) (cs:=[Pq b 0]) (V:=fun _=>.tuple #[]) (R:=Qew 60 83 b out) (R':=fun _=>Qew 60 83 b (out++[(⟨vb,(gd R1 0).item,false,(gd R1 0).qty,(gd R2 0).qty⟩:Dif)])) (Lo:=fun _=>[]) (F:=fun _ _=>True) Qou rfl rfl hs 0 rfl (fun S hS hlS=>QfX _ S b out (⟨vb,(gd R1 0).item,false,(gd R1 0).qty,(gd R2 0).qty⟩:Dif) hS hlS (by omega)) fun _ w32 hs _=>(Qaf ?_)))))))
   have hd9:=Qp1 hra hrb hdi (by omega) (by omega) hz9
   refine ⟨_,?_,_,R1.drop 1,R2.drop 1,I++[(gd R1 0).item],(out++[(⟨vb,(gd R1 0).item,false,(gd R1 0).qty,(gd R2 0).qty⟩:Dif)]),(sla a6 1 cb6 2),cb6-1,(sla a7 1 cb7 2),cb7-1,Qai (Qai (Qao (ds:=([6,7,8]++sq 13 97)) (by repeat (first|exact Agr.refl _ _|refine Agr.upd ?_ rfl|refine Agr.mix ?_ rfl))) rfl) rfl,hd9.1,(QfU hout hd9.2.1 hd9.2.2 c31),(fun w1 L1 h=>Rd.dropM (hv6 w1 L1 h) 1 (by omega) _ (by rw [List.length_drop])),(fun w1 L1 h=>Rd.dropM (hv7 w1 L1 h) 1 (by omega) _ (by rw [List.length_drop])),(by simp only [List.length_drop];omega),(by simp only [QQ7,List.length_singleton,List.length_drop];omega),rfl,hs.take 3⟩
   (simp only [List.length_drop];omega)
  replace c31:=Qbf c31
  replace c31:=QQ1 c31
  refine Qap ?_
  have hd9:=Qp1 hra hrb hdi (by omega) (by omega) hz9
  refine ⟨_,?_,_,R1.drop 1,R2.drop 1,I++[(gd R1 0).item],out,(sla a6 1 cb6 2),cb6-1,(sla a7 1 cb7 2),cb7-1,Qai (Qai (Qao (ds:=([6,7,8]++sq 13 97)) (by repeat (first|exact Agr.refl _ _|refine Agr.upd ?_ rfl|refine Agr.mix ?_ rfl))) rfl) rfl,hd9.1,(QkG hout hd9.2.1 hd9.2.2 c31),(fun w1 L1 h=>Rd.dropM (hv6 w1 L1 h) 1 (by omega) _ (by rw [List.length_drop])),(fun w1 L1 h=>Rd.dropM (hv7 w1 L1 h) 1 (by omega) _ (by rw [List.length_drop])),(by simp only [List.length_drop];omega),(by simp only [List.length_drop];omega),rfl,hs.take 3⟩
  (simp only [List.length_drop];omega)
 have c8r:=Qfk c8
 replace c8:=Qfj c8
 replace c8:=QQ2 c8
 replace c8r:=QQ2 c8r
 refine QaF (Qag (Qab (Qaa (Qae Qdb rfl (Qaa (QaE (V:=.bool ao) Qmh hs 1 rfl rfl rfl (Qaa (Qae Qdb rfl (Qaa (QaE (V:=.bool bo) Qmh hs 2 rfl rfl rfl (Qaa (Qud Qtm rfl rfl (Qaf (Qan (t:=!(ao == bo)) rfl (fun c33=>?_) (fun c33=>?_)))))))))))))))
 ·
  replace c33:=Qbn c33
  refine QaI HM [some 115,some 116,some 117,some 118,some 119,some 120,some 121,some 122,some 123,some 124,some 125] [] [0,0,2,0,8,24,0,64,248,510,1023] [pv (.func (.func 65) #[] #[Pq b 0]),pv (Pq b3 (0+0)),pv (I7 vb),pv (Pq b1 (0+2)),pv (.bool ao),pv (.int .u32 (QbW ao)),pv (Pq b3 (0+2)),pv (.bool bo),pv (.int .u32 (QbW bo)),pv (.agg (dfc (⟨vb,0,true,QbW ao,QbW bo⟩:Dif)).toArray),pv (.tuple #[])] (fun D J=>[cond (D 10) (Qew 60 83 b (out++[(⟨vb,0,true,QbW ao,QbW bo⟩:Dif)])) (Qew 60 83 b out),blk b1 [I7 va,.slice aa la.length ca,.bool ao,.int .u32 at_] 49,blk b3 [I7 vb,.slice ab lb.length cb,.bool bo,.int .u32 bt] 49]) [] (by kernel_rfl) hs ⟨?_,?_,?_,?_,?_,?_,?_,?_,?_,?_,?_,trivial⟩ ?_
  ·exact oa [] fun D J w hs=>Qac (V:=.func (.func 65) #[] #[.pointer (some ⟨b,0,none⟩)]) rfl (Zz hs)
  ·exact oa [] fun D J w hs=>Qae QhQ rfl (Zz hs)
  ·exact oa [1] fun D J w hs=>QaE (V:=.int .u16 vb) Qar hs 2 rfl rfl rfl (Zz hs)
  ·exact oa [] fun D J w hs=>Qae Qdb rfl (Zz hs)
  ·exact oa [3] fun D J w hs=>QaE (V:=.bool ao) Qmh hs 1 rfl rfl rfl (Zz hs)
  ·exact oa [4] fun D J w hs=>Qat (vs:=[.bool ao]) (V:=.int .u32 (QbW ao)) QpY rfl rfl (QkP _ ao) hs fun _ hs=>Zz hs
  ·exact oa [] fun D J w hs=>Qae Qdb rfl (Zz hs)
  ·exact oa [6] fun D J w hs=>QaE (V:=.bool bo) Qmh hs 2 rfl rfl rfl (Zz hs)
  ·exact oa [7] fun D J w hs=>Qat (vs:=[.bool bo]) (V:=.int .u32 (QbW bo)) QpY rfl rfl (QkP _ bo) hs fun _ hs=>Zz hs
  ·exact oa [2,5,8] fun D J w hs=>Qbw (vs:=[(0,.int .u16 vb),(2,.bool true),(3,.int .u32 (QbW ao)),(4,.int .u32 (QbW bo))]) (cs:=dfc (⟨vb,0,true,QbW ao,QbW bo⟩:Dif)) QrC (rfl) rfl (Zz hs)
  ·exact oa [0,9] fun D J w hs=>Qob (α:=Unit) (vs:=[.agg (dfc (⟨vb,0,true,QbW ao,QbW bo⟩:Dif)).toArray]) (cs:=[.pointer (some ⟨b,0,none⟩)]) (V:=fun _=>.tuple #[]) (R:=Qew 60 83 b out) (R':=fun _=>Qew 60 83 b (out++[(⟨vb,0,true,QbW ao,QbW bo⟩:Dif)])) (Lo:=fun _=>[]) (F:=fun _ _=>True) Qou rfl rfl hs 0 rfl (fun S hS hlS=>QfX _ S b out (⟨vb,0,true,QbW ao,QbW bo⟩:Dif) hS hlS (by omega)) fun _ _ hs _=>⟨rfl,hs⟩
  rintro J1 w37 J2 hJ hs
  replace hJ:J2=mix (sq 115 11) J1 _:=hJ
  replace hs:Own w S w37 [Qew 60 83 b (out++[(⟨vb,0,true,QbW ao,QbW bo⟩:Dif)]),blk b1 [I7 va,.slice aa la.length ca,.bool ao,.int .u32 at_] 49,blk b3 [I7 vb,.slice ab lb.length cb,.bool bo,.int .u32 bt] 49]:=hs
  subst hJ
  refine ⟨_,Qbr Tryz.results64,?_⟩
  have hof:=Qj1 hdi (by omega) (by omega) hout
  have hX:(out++[(⟨vb,0,true,QbW ao,QbW bo⟩:Dif)])=L++Qde (⟨va,la,ao,at_⟩:Vw) (⟨vb,lb,bo,bt⟩:Vw):=Qir hof (fun e=>by subst e;simp at c33)
  exact ⟨(),rfl,by rw [← hX];exact hs.only 0 rfl,trivial⟩
 replace c33:=Qbf c33
 refine Qap ?_
 refine ⟨_,Qbr Tryz.results64,?_⟩
 have hof:=Qj1 hdi (by omega) (by omega) hout
 have hX:out=L++Qde (⟨va,la,ao,at_⟩:Vw) (⟨vb,lb,bo,bt⟩:Vw):=Qiv hof (eq_of_beq c33)
 exact ⟨(),rfl,by rw [← hX];exact hs.only 0 rfl,trivial⟩
end Tt
end Go.Proofs
namespace Go.Proofs
open Go Go.Vx Go.RowKit
namespace Tt
theorem Qte (w:World) (x y:Cen):Calls Tryz.prog 128 #[.agg (cec x).toArray,.agg (cec y).toArray] w (fun e w'=>e = .returned (.int .i64 (Qt9 x y))/\Own w no w' []):=by
 refine Qaj (n:=26) Tryz.func128 rfl Tryz.ntmps128 rfl ?_
 have hs:=Own.start w
 refine Qag (Qab (Qaa (QaN (V:=.agg (cec x).toArray) (cs:=cec x) rfl rfl hs fun b1 w2 hs=>(Qaa (QaN (V:=.agg (cec y).toArray) (cs:=cec y) rfl rfl hs fun b3 w4 hs=>(Qaa (Qad (V:=I6 0) rfl (Qaf (Qag ?_)))))))))
 replace hs:=hs.more emp trivial
 refine QaI HM [some 5,some 6,some 7,some 8,some 9,some 10,some 11,some 12,some 13,some 14,some 15,some 16,some 17,some 18,some 19,some 20,some 21,some 22,some 23,some 24,some 25,some 4] [[],[],[],[],[],[],[],[],[],[],[],[],[],[],[],[],[],[],[],[24]] [0,1,0,4,15,0,32,96,0,256,768,2047,0,4096,12288,0,32768,98304,262143,524287,1048575,2097151] [pv (Pq b1 (0+6)),pv (.int .u64 x.count),pv (Pq b3 (0+6)),pv (.int .u64 y.count),pv (I6 (Qa3 x.count y.count)),pv (Pq b1 (0+4)),pv (Pq b1 (0+4+0)),pv (.int .u8 x.dot.rep),pv (Pq b3 (0+4)),pv (Pq b3 (0+4+0)),pv (.int .u8 y.dot.rep),pv (I6 (Qa3 x.dot.rep y.dot.rep)),pv (Pq b1 (0+4)),pv (Pq b1 (0+4+1)),pv (.int .u32 x.dot.seq),pv (Pq b3 (0+4)),pv (Pq b3 (0+4+1)),pv (.int .u32 y.dot.seq),pv (I6 (Qa3 x.dot.seq y.dot.seq)),(true,fun J=>.slice (some ⟨(bOf (J 24)),0,none⟩) 3 3),pv (I6 (orI [Qa3 x.count y.count,Qa3 x.dot.rep y.dot.rep,Qa3 x.dot.seq y.dot.seq])),pv (I6 (orI [Qa3 x.count y.count,Qa3 x.dot.rep y.dot.rep,Qa3 x.dot.seq y.dot.seq]))] (fun D J=>[blk b1 (cec x) 106,blk b3 (cec y) 106,cond (D 19) (row (.slice (some ⟨(bOf (J 24)),0,none⟩) 3 3) ([Qa3 x.count y.count,Qa3 x.dot.rep y.dot.rep,Qa3 x.dot.seq y.dot.seq].map (ic .i64)) 3 1) (emp)]) [21] (by kernel_rfl) hs ⟨?_,?_,?_,?_,?_,?_,?_,?_,?_,?_,?_,?_,?_,?_,?_,?_,?_,?_,?_,?_,?_,?_,trivial⟩ ?_
 ·exact oa [] fun D J w hs=>Qae QfS rfl (Zz hs)
 ·exact oa [0] fun D J w hs=>QaE (V:=.int .u64 x.count) QeA hs 0 rfl rfl rfl (Zz hs)
 ·exact oa [] fun D J w hs=>Qae QfS rfl (Zz hs)
 ·exact oa [2] fun D J w hs=>QaE (V:=.int .u64 y.count) QeA hs 1 rfl rfl rfl (Zz hs)
 ·exact oa [1,3] fun D J w hs=>Qat (vs:=[.int .u64 x.count,.int .u64 y.count]) (V:=.int .i64 (Qa3 x.count y.count)) QsD rfl rfl (QhZ _ x.count y.count) hs fun _ hs=>Zz hs
 ·exact oa [] fun D J w hs=>Qae QbO rfl (Zz hs)
 ·exact oa [5] fun D J w hs=>Qae QbI rfl (Zz hs)
 ·exact oa [6] fun D J w hs=>QaE (V:=.int .u8 x.dot.rep) QcN hs 0 rfl rfl rfl (Zz hs)
 ·exact oa [] fun D J w hs=>Qae QbO rfl (Zz hs)
 ·exact oa [8] fun D J w hs=>Qae QbI rfl (Zz hs)
 ·exact oa [9] fun D J w hs=>QaE (V:=.int .u8 y.dot.rep) QcN hs 1 rfl rfl rfl (Zz hs)
 ·exact oa [7,10] fun D J w hs=>Qat (vs:=[.int .u8 x.dot.rep,.int .u8 y.dot.rep]) (V:=.int .i64 (Qa3 x.dot.rep y.dot.rep)) QrR rfl rfl (Qea _ x.dot.rep y.dot.rep) hs fun _ hs=>Zz hs
 ·exact oa [] fun D J w hs=>Qae QbO rfl (Zz hs)
 ·exact oa [12] fun D J w hs=>Qae QbQ rfl (Zz hs)
 ·exact oa [13] fun D J w hs=>QaE (V:=.int .u32 x.dot.seq) Qa6 hs 0 rfl rfl rfl (Zz hs)
 ·exact oa [] fun D J w hs=>Qae QbO rfl (Zz hs)
 ·exact oa [15] fun D J w hs=>Qae QbQ rfl (Zz hs)
 ·exact oa [16] fun D J w hs=>QaE (V:=.int .u32 y.dot.seq) Qa6 hs 1 rfl rfl rfl (Zz hs)
 ·exact oa [14,17] fun D J w hs=>Qat (vs:=[.int .u32 x.dot.seq,.int .u32 y.dot.seq]) (V:=.int .i64 (Qa3 x.dot.seq y.dot.seq)) Qrg rfl rfl (QdU _ x.dot.seq y.dot.seq) hs fun _ hs=>Zz hs
 ·exact oa [4,11,18] fun D J w hs=>QeQ (vals:=[.int .i64 (Qa3 x.count y.count),.int .i64 (Qa3 x.dot.rep y.dot.rep),.int .i64 (Qa3 x.dot.seq y.dot.seq)]) (ls:=List.map (ic .i64) ([Qa3 x.count y.count,Qa3 x.dot.rep y.dot.rep,Qa3 x.dot.seq y.dot.seq]:List Int)) Qnu rfl rfl rfl (Qbe (enc:=(ic .i64)) (fun _=>rfl) _) (QaJ (QfI .i64) _) (QQ8 rfl) hs fun _ _ hs=>⟨rfl,hs.put 2 (QQ8 rfl)⟩
 ·exact oa [19] fun D J w hs=>Qat (vs:=[.slice (some ⟨(bOf (J 24)),0,none⟩) 3 3]) (V:=.int .i64 (orI [Qa3 x.count y.count,Qa3 x.dot.rep y.dot.rep,Qa3 x.dot.seq y.dot.seq])) Qrn rfl rfl (QrT _ (some ⟨(bOf (J 24)),0,none⟩) 3 [Qa3 x.count y.count,Qa3 x.dot.rep y.dot.rep,Qa3 x.dot.seq y.dot.seq] (hs.rd 2 rfl)) hs fun _ hs=>Zz hs
 ·exact oa [20] fun D J w hs=>Qad (V:=.int .i64 (orI [Qa3 x.count y.count,Qa3 x.dot.rep y.dot.rep,Qa3 x.dot.seq y.dot.seq])) rfl (Zz hs)
 rintro J1 w10 J2 hJ hs
 replace hJ:J2=upd (mix (sq 5 21++[4]) J1 _) 4 (I6 (orI [Qa3 x.count y.count,Qa3 x.dot.rep y.dot.rep,Qa3 x.dot.seq y.dot.seq])):=hJ
 replace hs:Own w no w10 [blk b1 (cec x) 106,blk b3 (cec y) 106,row (.slice (some ⟨(bOf (J1 24)),0,none⟩) 3 3) ([Qa3 x.count y.count,Qa3 x.dot.rep y.dot.rep,Qa3 x.dot.seq y.dot.seq].map (ic .i64)) 3 1]:=hs
 generalize (bOf (J1 24))=b11 at hs
 subst hJ
 refine Qau ?_
 refine ⟨_,Qaq (V:=I6 (orI [Qa3 x.count y.count,Qa3 x.dot.rep y.dot.rep,Qa3 x.dot.seq y.dot.seq])) Tryz.results128 rfl,(Zr hs ?_)⟩
 rfl
theorem QoS (w:World) (x y:Cen):Calls Tryz.prog 76 #[.agg (cec x).toArray,.agg (cec y).toArray] w (fun e w'=>e = .returned (.int .i64 (Qa3 x.item y.item))/\Own w no w' []):=by
 refine Qaj (n:=10) Tryz.func76 rfl Tryz.ntmps76 rfl ?_
 have hs:=Own.start w
 refine Qag (Qab (Qaa (QaN (V:=.agg (cec x).toArray) (cs:=cec x) rfl rfl hs fun b1 w2 hs=>(Qaa (QaN (V:=.agg (cec y).toArray) (cs:=cec y) rfl rfl hs fun b3 w4 hs=>(Qaa (Qad (V:=I6 0) rfl (Qaf (Qag (Qab (Qaa (Qae QdR rfl (Qaa (QaE (V:=I7 x.item) Qar hs 0 rfl rfl rfl (Qaa (Qae QdR rfl (Qaa (QaE (V:=I7 y.item) Qar hs 1 rfl rfl rfl (Qaa (Qat (vs:=[I7 x.item,I7 y.item]) (V:=I6 (Qa3 x.item y.item)) Qpv rfl rfl ?hc hs fun w5 hs=>?_))))))))))))))))))))
 case hc=>exact (Qc1 _ x.item y.item)
 refine Qaa (Qad (V:=I6 (Qa3 x.item y.item)) rfl (Qaf (Qau ?_)))
 refine ⟨_,Qaq (V:=I6 (Qa3 x.item y.item)) Tryz.results76 rfl,(Zr hs ?_)⟩
 rfl
theorem Qsg (w:World) (item:Int) (a:Option Addr) (c:Nat) (l:List Cen) (hl:∀ e∈l,Qfb e/\1<=e.count) (hr:Rd w (.slice a l.length c) 7 (l.map cec)):Calls Tryz.prog 78 #[.int .u16 item,.slice a l.length c] w (fun e w'=>e = .returned (.agg (lc ⟨item,QcT l⟩).toArray)/\Own w no w' []):=by
 refine Qaj (n:=38) Tryz.func78 rfl Tryz.ntmps78 rfl ?_
 have hs:=Own.start w
 have hn1:=hr.sml
 refine Qag (Qab (Qaa (QaM (cs:=lc (⟨0,0⟩:Line)) QtQ rfl hs fun b1 w2 hs=>(Qaf (Qag (Qab (Qaa (QaM (cs:=cec (⟨0,0,0,0,(⟨0,0⟩:Dot),0⟩:Cen)) Qhu rfl hs fun b3 w4 hs=>(Qaf (Qag (Qab (Qaa (Qad (V:=.int .u32 0) rfl (Qaf (Qag (Qag (Qab (Qaa (Qac (V:=.slice a l.length c) rfl (Qaa (Qa2 (n:=l.length) QbM (Rd.own' hr hs) (by simp) rfl (Qaa (Qac (V:=I6 0) rfl (Qaf (Qam (QaA (fun J μ J' w'=>∃ (Jo:Env) (k:Nat) (sm:Int) (u:Cen),J'=upd (upd (mix ([6,8]++sq 11 20) Jo J) 11 (I6 (k:Int))) 6 (.int .u32 sm)/\(k<=l.length)/\(sm=QfW (l.take k))/\(u=(l.take k).foldl QeR cz)/\μ=l.length-k/\Own w no w' [blk b1 (lc (⟨0,0⟩:Line)) 127,blk b3 (cec u) 106]) ?_ ?_))))))))))))))))))))))))))
 ·exact ⟨_,_,0,0,cz,Qai (Qai (Qao (ds:=([6,8]++sq 11 20)) (Agr.refl _ _)) rfl) rfl,(by omega),rfl,rfl,rfl,hs⟩
 rintro μ J' w5 ⟨Jo,k,sm,u,rfl,hk,hsm,hset,rfl,hs⟩
 refine Qag (Qab (Qaa (QaQ rfl rfl (Qaf (Qag (Qan (t:=decide ((k:Int)<((l.length:Nat):Int))) rfl (fun c6=>?_) (fun c6=>?_)))))))
 ·
  replace c6:=QQ1 c6
  refine Qap (Qag (Qam (Qag (Qab (Qaa (Qaw QbM QaH.1 (Rd.own' hr hs) rfl rfl (by omega) (by rw [QQ6];omega) (Qaa (Qa1 (j:=0) (vs:=cec (gd l k)) k QaH (Rd.own' hr hs) (QaT (by omega)) rfl rfl rfl (by omega) (Qaa (QaM (cs:=cec (⟨0,0,0,0,(⟨0,0⟩:Dot),0⟩:Cen)) Qhu rfl hs fun b7 w8 hs=>(Qaa (QcK (V:=.agg (cec (gd l k)).toArray) (vs:=cec (gd l k)) (cs':=cec (gd l k)) QaH.1 hs 2 rfl rfl rfl rfl rfl (QQ8 rfl) (Qa8 _) (QaB rfl) fun w9 hs=>?_))))))))))))
  replace hs:Own w no w9 [blk b1 (lc (⟨0,0⟩:Line)) 127,blk b3 (cec u) 106,blk b7 (cec (gd l k)) 106]:=hs
  refine Qaf (Qam (Qag (Qab (Qaa (Qae QeV rfl (Qaa (QaE (V:=.int .u8 ((gd l k).kind)) QcN hs 2 rfl rfl rfl (Qaa (QaS rfl rfl (Qaa (Qad (V:=.bool (decide ((gd l k).kind=1))) rfl (Qaf (Qan (t:=decide ((gd l k).kind=1)) rfl (fun c10=>?_) (fun c10=>?_))))))))))))))
  ·
   replace c10:=QQ1 c10
   have ⟨hq1,hq2⟩:=(hl _ (QbK (l:=l) (i:=k) (by omega))).1.2.2.1
   refine Qab (Qaa (Qac (V:=.int .u32 sm) rfl (Qaa (Qae Qe0 rfl (Qaa (QaE (V:=I7 ((gd l k).qty)) Qar hs 2 rfl rfl rfl (Qaa (QbU QgQ QkY rfl (Qgr (by omega) (by omega)) (Qaa (QaD (a:=sm) (b:=(gd l k).qty) (c:=(sm+((gd l k).qty))%4294967296) rfl rfl (Qj4 _) (Qaa (Qad (V:=.int .u32 ((sm+((gd l k).qty))%4294967296)) rfl (Qaf (Qab (Qaa (QaD (a:=(k:Int)) (b:=1) (c:=((k+1:Nat):Int)) rfl rfl (Qak (by omega) (by omega)) (Qaa (Qac (V:=I6 ((k+1:Nat):Int)) rfl (Qaf ?_)))))))))))))))))))
   refine ⟨_,?_,_,k+1,(sm+((gd l k).qty))%4294967296,u,Qai (Qai (Qao (ds:=([6,8]++sq 11 20)) (by repeat (first|exact Agr.refl _ _|refine Agr.upd ?_ rfl|refine Agr.mix ?_ rfl))) rfl) rfl,(by omega),(QoL hsm (by omega) c10),(by rw [← Qf9 hset (by omega),QmU c10]),rfl,hs.take 2⟩
   omega
  replace c10:=QQ2 c10
  refine Qag (Qab (Qaa (QaG (cs:=cec (gd l k)) QaH hs 2 rfl rfl rfl (Qaa (QaG (cs:=cec u) QaH hs 1 rfl rfl rfl (Qaa (Qat (vs:=[.agg (cec (gd l k)).toArray,.agg (cec u).toArray]) (V:=I6 (Qt9 (gd l k) u)) Qs5 rfl rfl ?hc hs fun w11 hs=>?_)))))))
  case hc=>exact (Qte _ (gd l k) u)
  refine Qaa (Qbp (V:=.bool (decide (0<Qt9 (gd l k) u))) (V':=.bool (Qcu u (gd l k))) (QbY rfl rfl ⟨rfl,rfl⟩) (congrArg Value.bool (QsY _ _)) (Qaa (Qad (V:=.bool (Qcu u (gd l k))) rfl (Qaf (Qan (t:=Qcu u (gd l k)) rfl (fun c12=>?_) (fun c12=>?_))))))
  ·
   refine Qab (Qaa (QaG (cs:=cec (gd l k)) QaH hs 2 rfl rfl rfl (Qaa (QcK (V:=.agg (cec (gd l k)).toArray) (vs:=cec (gd l k)) (cs':=cec (gd l k)) QaH.1 hs 1 rfl rfl rfl rfl rfl (QQ8 rfl) (Qa8 _) (QaB rfl) fun w13 hs=>(Qaf (Qab (Qaa (QaD (a:=(k:Int)) (b:=1) (c:=((k+1:Nat):Int)) rfl rfl (Qak (by omega) (by omega)) (Qaa (Qac (V:=I6 ((k+1:Nat):Int)) rfl (Qaf ?_)))))))))))
   refine ⟨_,?_,_,k+1,sm,gd l k,Qai (Qai (Qao (ds:=([6,8]++sq 11 20)) (by repeat (first|exact Agr.refl _ _|refine Agr.upd ?_ rfl|refine Agr.mix ?_ rfl))) rfl) rfl,(by omega),(Ql1 hsm (by omega) c10),(by rw [← Qf9 hset (by omega),Qpc c10 c12]),rfl,hs.take 2⟩
   omega
  refine Qap (Qab (Qaa (QaD (a:=(k:Int)) (b:=1) (c:=((k+1:Nat):Int)) rfl rfl (Qak (by omega) (by omega)) (Qaa (Qac (V:=I6 ((k+1:Nat):Int)) rfl (Qaf ?_))))))
  refine ⟨_,?_,_,k+1,sm,u,Qai (Qai (Qao (ds:=([6,8]++sq 11 20)) (by repeat (first|exact Agr.refl _ _|refine Agr.upd ?_ rfl|refine Agr.mix ?_ rfl))) rfl) rfl,(by omega),(Ql1 hsm (by omega) c10),(by rw [← Qf9 hset (by omega),Qq8 c10 c12]),rfl,hs.take 2⟩
  omega
 replace c6:=QQ2 c6
 refine QaF (Qag ?_)
 have ⟨hq1,hq2⟩:0<=u.qty/\u.qty<65536:=by rw [hset];exact QoY fun e he=>(hl e (List.mem_of_mem_take he)).1
 refine Qab (Qaa (Qac (V:=I7 item) rfl (Qaa (Qac (V:=.int .u32 sm) rfl (Qaa (Qae Qe0 rfl (Qaa (QaE (V:=I7 u.qty) Qar hs 1 rfl rfl rfl (Qaa (QbU QgQ QkY rfl (Qgr (by omega) (by omega)) (Qaa (QaD (a:=sm) (b:=u.qty) (c:=(sm+u.qty)%4294967296) rfl rfl (Qj4 _) (Qaa (Qbw (vs:=[(0,I7 item),(1,.int .u32 ((sm+u.qty)%4294967296))]) (cs:=lc (⟨item,(sm+u.qty)%4294967296⟩:Line)) Qqw (rfl) rfl (Qaa (QcK (V:=.agg (lc (⟨item,(sm+u.qty)%4294967296⟩:Line)).toArray) (vs:=lc (⟨item,(sm+u.qty)%4294967296⟩:Line)) (cs':=lc (⟨item,(sm+u.qty)%4294967296⟩:Line)) Qcs.1 hs 0 rfl rfl rfl rfl rfl (QQ8 rfl) (QfB _) (QaB rfl) fun w14 hs=>(Qaf (Qau ?_))))))))))))))))))
 refine ⟨_,QcH (cs:=lc (⟨item,(sm+u.qty)%4294967296⟩:Line)) Tryz.results78 Qcs hs 0 rfl rfl rfl,(Zr hs ?_)⟩
 have hT:=Qb6 (l:=l) (k:=k) (by omega)
 rw [hT] at hsm hset
 subst hsm hset
 rw [QpH fun e he=>(hl e he).2]
end Tt
end Go.Proofs
namespace Go.Proofs
open Go Go.Vx Go.RowKit
namespace Tt
theorem Qp4 (w:World) (S:Nat->Prop) (a:Option Addr) (N c:Nat) (l:List Cen) (hz:l.length=N) (hN:N<=2305843009213693951) (lo hi:Nat) (hlo:lo<=hi) (hhi:hi<=N) (g:Nat) (hg:En Tryz.prog g) (cf:Cen->Cen->Int) (hc:CmpO cf) (hcmp:∀ (w:World) (x y:Cen),Calls Tryz.prog g #[.agg (cec x).toArray,.agg (cec y).toArray] w (fun e w'=>e = .returned (.int .i64 (cf x y))/\Own w no w' [])) (hR:(row (.slice a N c) (l.map cec) 106 7).holds w S) (hlt:∀ b,S b->b<w.heap.size):Calls Tryz.prog 136 #[.slice a N c,.int .i64 (lo:Int),.int .i64 (hi:Int),.func (.func g) #[] #[]] w (fun e w'=>∃ x:List Cen,e = .returned (.tuple #[])/\Own w S w' [row (.slice a N c) (x.map cec) 106 7]/\(x.length=N/\Merged cf l x lo hi)):=by
 refine Qaj (n:=53) Tryz.func136 rfl Tryz.ntmps136 rfl ?_
 have hs:=Own.lent hR hlt
 refine Qag (Qab (Qaa (Qac (V:=I6 (lo:Int)) rfl (Qaa (QaD (a:=(lo:Int)) (b:=1) (c:=((lo+1:Nat):Int)) rfl rfl (Qak (by omega) (by omega)) (Qaa (Qad (V:=I6 ((lo+1:Nat):Int)) rfl (Qaf (Qam (QaA (fun J μ J' w'=>∃ (Jo:Env) (k:Nat) (m:List Cen),J'=upd (mix ([8,9]++sq 12 41) Jo J) 8 (I6 (k:Int))/\(lo+1<=k)/\(k<=hi∨k=lo+1)/\(m.length=N)/\(Qbd l m lo hi)/\(Qbi cf m lo k)/\μ=hi-k/\Own w S w' [row (.slice a N c) (m.map cec) 106 7]) ?_ ?_))))))))))
 ·exact ⟨_,_,lo+1,l,Qai (Qao (ds:=([8,9]++sq 12 41)) (Agr.refl _ _)) rfl,(Nat.le_refl _),(Or.inr rfl),hz,(Qbd.refl l hlo (by omega)),(Qbi.small (Nat.le_refl _)),rfl,hs⟩
 rintro μ J' w1 ⟨Jo,k,m,rfl,hk0,hk,hz1,hpm,hor,rfl,hs⟩
 refine Qag (Qag (Qab (Qaa (Qac (V:=I6 (k:Int)) rfl (Qaa (Qac (V:=I6 (hi:Int)) rfl (Qaa (QaQ rfl rfl (Qaf (Qan (t:=decide ((k:Int)<(hi:Int))) rfl (fun c2=>?_) (fun c2=>?_)))))))))))
 ·
  replace c2:=QQ1 c2
  refine Qap (Qag (Qam (Qag (Qab (Qaa (Qac (V:=I6 (k:Int)) rfl (Qaa (Qad (V:=I6 (k:Int)) rfl (Qaf (Qam (QaA (fun J μ J' w'=>∃ (Jo:Env) (j:Nat) (m2:List Cen),J'=upd (mix ([9]++sq 18 35) Jo J) 9 (I6 (j:Int))/\(lo<=j)/\(j<=k)/\(m2.length=N)/\(Qbd l m2 lo hi)/\(Qsz cf m2 lo k j)/\μ=j+1/\Own w S w' [row (.slice a N c) (m2.map cec) 106 7]) ?_ ?_)))))))))))
  ·exact ⟨_,_,k,m,Qai (Qao (ds:=([9]++sq 18 35)) (Agr.refl _ _)) rfl,(by omega),(Nat.le_refl _),hz1,hpm,(Ql5 hor),rfl,hs⟩
  rintro μ J' w3 ⟨Jo,j,m2,rfl,hj0,hj,hz2,hpm2,hin,rfl,hs⟩
  refine Qag (Qag (QaI HM [some 18,some 19,some 20,some 21,some 22,some 23,some 24,some 25,some 26,some 27,some 28,some 29,some 30,some 31,some 32,some 33,some 34] [] [0,0,3,7,15,15,15,111,239,15,15,1039,3599,7695,16383,32767,65535] [pv (I6 (j:Int)),pv (I6 (lo:Int)),pv (.bool (decide ((lo:Int)<(j:Int)))),pv (.bool (decide ((lo:Int)<(j:Int)))),pg ((decide ((lo:Int)<(j:Int))) == true) (.func (.func g) #[] #[]),pg ((decide ((lo:Int)<(j:Int))) == true) (.slice a N c),pg ((decide ((lo:Int)<(j:Int))) == true) (I6 (j:Int)),pg ((decide ((lo:Int)<(j:Int))) == true) (.pointer (some ⟨bkS (.slice a N c),ofS (.slice a N c)+(j:Int).toNat*7,none⟩)),pg ((decide ((lo:Int)<(j:Int))) == true) (.agg (cec (gd m2 j)).toArray),pg ((decide ((lo:Int)<(j:Int))) == true) (.slice a N c),pg ((decide ((lo:Int)<(j:Int))) == true) (I6 (j:Int)),pg ((decide ((lo:Int)<(j:Int))) == true) (I6 ((j-1:Nat):Int)),pg ((decide ((lo:Int)<(j:Int))) == true) (.pointer (some ⟨bkS (.slice a N c),ofS (.slice a N c)+((j-1:Nat):Int).toNat*7,none⟩)),pg ((decide ((lo:Int)<(j:Int))) == true) (.agg (cec (gd m2 (j-1))).toArray),pg ((decide ((lo:Int)<(j:Int))) == true) (I6 (cf (gd m2 j) (gd m2 (j-1)))),pg ((decide ((lo:Int)<(j:Int))) == true) (.bool (decide (cf (gd m2 j) (gd m2 (j-1))<0))),pv (.bool ((decide ((lo:Int)<(j:Int)))&&(decide (cf (gd m2 j) (gd m2 (j-1))<0))))] (fun _ _=>_) [16] (by kernel_rfl) hs ⟨?_,?_,?_,?_,?_,?_,?_,?_,?_,?_,?_,?_,?_,?_,?_,?_,?_,trivial⟩ ?_))
  ·exact oa [] fun D J w hs=>Qac (V:=.int .i64 (j:Int)) rfl (Zz hs)
  ·exact oa [] fun D J w hs=>Qac (V:=.int .i64 (lo:Int)) rfl (Zz hs)
  ·exact oa [0,1] fun D J w hs=>QbY rfl rfl (Zz hs)
  ·exact oa [2] fun D J w hs=>Qac (V:=.bool (decide ((lo:Int)<(j:Int)))) rfl (Zz hs)
  ·exact og [3] fun D J w hG hs=>Qac (V:=.func (.func g) #[] #[]) rfl (Zz hs)
  ·exact og [3] fun D J w hG hs=>Qac (V:=.slice a N c) rfl (Zz hs)
  ·exact og [3] fun D J w hG hs=>Qac (V:=.int .i64 (j:Int)) rfl (Zz hs)
  ·refine oy [3,5,6] [5,6] fun D J w hG hs=>?_
   have hgd:=QQ1 (eq_of_beq (hG))
   exact Qaw QbM QaH.1 (hs.rd 0 rfl) rfl rfl (by omega) (by rw [QQ6];omega) (Zz hs)
  ·refine oy [3,7] [7] fun D J w hG hs=>?_
   have hgd:=QQ1 (eq_of_beq (hG))
   exact Qa1 (j:=0) (vs:=cec (gd m2 j)) j QaH (hs.rd 0 rfl) (QaT (by omega)) rfl rfl rfl (by omega) (Zz hs)
  ·exact og [3] fun D J w hG hs=>Qac (V:=.slice a N c) rfl (Zz hs)
  ·exact og [3] fun D J w hG hs=>Qac (V:=.int .i64 (j:Int)) rfl (Zz hs)
  ·refine oy [3,10] [10] fun D J w hG hs=>?_
   have hgd:=QQ1 (eq_of_beq (hG))
   exact Qa7 (a:=(j:Int)) (b:=1) (c:=((j-1:Nat):Int)) rfl rfl (Qak (by omega) (by omega)) (Zz hs)
  ·refine oy [3,9,11] [9,11] fun D J w hG hs=>?_
   have hgd:=QQ1 (eq_of_beq (hG))
   exact Qaw QbM QaH.1 (hs.rd 0 rfl) rfl rfl (by omega) (by rw [QQ6];omega) (Zz hs)
  ·refine oy [3,12] [12] fun D J w hG hs=>?_
   have hgd:=QQ1 (eq_of_beq (hG))
   exact Qa1 (j:=0) (vs:=cec (gd m2 (j-1))) (j-1) QaH (hs.rd 0 rfl) (QaT (by omega)) rfl rfl rfl (by omega) (Zz hs)
  ·exact oy [3,4,8,13] [4,8,13] fun D J w hG hs=>Qgw (vs:=[.agg (cec (gd m2 j)).toArray,.agg (cec (gd m2 (j-1))).toArray]) (cs:=[]) (V:=.int .i64 (cf (gd m2 j) (gd m2 (j-1)))) hg rfl rfl (hcmp _ (gd m2 j) (gd m2 (j-1))) hs fun _ hs=>Zz hs
  ·exact oy [3,14] [14] fun D J w hG hs=>QaQ rfl rfl (Zz hs)
  ·exact oa [3,15] fun D J w hs=>Qa4 (h':=decide (cf (gd m2 j) (gd m2 (j-1))<0)) rfl rfl rfl (Zz hs)
  rintro J1 w5 J2 hJ hs
  replace hJ:J2=upd (mix (sq 18 17) J1 _) 34 (.bool ((decide ((lo:Int)<(j:Int)))&&(decide (cf (gd m2 j) (gd m2 (j-1))<0)))):=hJ
  subst hJ
  refine Qan (t:=(decide ((lo:Int)<(j:Int)))&&(decide (cf (gd m2 j) (gd m2 (j-1))<0))) rfl (fun c6=>?_) (fun c6=>?_)
  ·
   have c6r:=QbF c6
   replace c6:=QbD c6
   replace c6:=QQ1 c6
   replace c6r:=QQ1 c6r
   refine Qap (Qag (Qam (QaI HM [some 37,some 38,some 39,some 40,some 41,some 42,some 43,some 44,some 45,some 46,some 47,some 48,some 49,some 50,some 51,none,some 52,none] [] [0,0,0,0,8,0,0,64,224,480,0,0,3072,7168,16355,32739,65535,131071] [pv (.slice a N c),pv (I6 (j:Int)),pv (.slice a N c),pv (I6 (j:Int)),pv (I6 ((j-1:Nat):Int)),pv (.slice a N c),pv (I6 (j:Int)),pv (I6 ((j-1:Nat):Int)),pv (.pointer (some ⟨bkS (.slice a N c),ofS (.slice a N c)+((j-1:Nat):Int).toNat*7,none⟩)),pv (.agg (cec (gd m2 (j-1))).toArray),pv (.slice a N c),pv (I6 (j:Int)),pv (.pointer (some ⟨bkS (.slice a N c),ofS (.slice a N c)+(j:Int).toNat*7,none⟩)),pv (.agg (cec (gd m2 j)).toArray),pv (.pointer (some ⟨bkS (.slice a N c),ofS (.slice a N c)+(j:Int).toNat*7,none⟩)),pn,pv (.pointer (some ⟨bkS (.slice a N c),ofS (.slice a N c)+((j-1:Nat):Int).toNat*7,none⟩)),pn] (fun D J=>[cond (D 17) (row (.slice a N c) (((m2.set j (gd m2 (j-1))).set (j-1) (gd m2 j)).map cec) 106 7) (cond (D 15) (row (.slice a N c) ((m2.set j (gd m2 (j-1))).map cec) 106 7) (row (.slice a N c) (m2.map cec) 106 7))]) [] (by kernel_rfl) hs ⟨?_,?_,?_,?_,?_,?_,?_,?_,?_,?_,?_,?_,?_,?_,?_,?_,?_,?_,trivial⟩ ?_)))
   ·exact oa [] fun D J w hs=>Qac (V:=.slice a N c) rfl (Zz hs)
   ·exact oa [] fun D J w hs=>Qac (V:=.int .i64 (j:Int)) rfl (Zz hs)
   ·exact oa [] fun D J w hs=>Qac (V:=.slice a N c) rfl (Zz hs)
   ·exact oa [] fun D J w hs=>Qac (V:=.int .i64 (j:Int)) rfl (Zz hs)
   ·exact oa [3] fun D J w hs=>Qa7 (a:=(j:Int)) (b:=1) (c:=((j-1:Nat):Int)) rfl rfl (Qak (by omega) (by omega)) (Zz hs)
   ·exact oa [] fun D J w hs=>Qac (V:=.slice a N c) rfl (Zz hs)
   ·exact oa [] fun D J w hs=>Qac (V:=.int .i64 (j:Int)) rfl (Zz hs)
   ·exact oa [6] fun D J w hs=>Qa7 (a:=(j:Int)) (b:=1) (c:=((j-1:Nat):Int)) rfl rfl (Qak (by omega) (by omega)) (Zz hs)
   ·exact ob [5,7] [15,17] rfl rfl fun D J w hs=>Qaw QbM QaH.1 (hs.rd 0 rfl) rfl rfl (by omega) (by rw [QQ6];omega) (Zz hs)
   ·exact ob [8] [15,17] rfl rfl fun D J w hs=>Qa1 (j:=0) (vs:=cec (gd m2 (j-1))) (j-1) QaH (hs.rd 0 rfl) (QaT (by omega)) rfl rfl rfl (by omega) (Zz hs)
   ·exact oa [] fun D J w hs=>Qac (V:=.slice a N c) rfl (Zz hs)
   ·exact oa [] fun D J w hs=>Qac (V:=.int .i64 (j:Int)) rfl (Zz hs)
   ·exact ob [10,11] [15,17] rfl rfl fun D J w hs=>Qaw QbM QaH.1 (hs.rd 0 rfl) rfl rfl (by omega) (by rw [QQ6];omega) (Zz hs)
   ·exact ob [12] [15,17] rfl rfl fun D J w hs=>Qa1 (j:=0) (vs:=cec (gd m2 j)) j QaH (hs.rd 0 rfl) (QaT (by omega)) rfl rfl rfl (by omega) (Zz hs)
   ·exact ob [0,1] [15,17] rfl rfl fun D J w hs=>Qaw QbM QaH.1 (hs.rd 0 rfl) rfl rfl (by omega) (by rw [QQ6];omega) (Zz hs)
   ·exact ob [9,14] [17] rfl rfl fun D J w hs=>QhB (z:=gd m2 (j-1)) j QaH.1 hs 0 rfl rfl rfl (by first|omega|(simp only [List.length_set];omega)) rfl rfl rfl (Qa8 _) fun _ hs=>⟨trivial,hs⟩
   ·exact ob [2,4,15] [17] rfl rfl fun D J w hs=>Qaw QbM QaH.1 (hs.rd 0 rfl) rfl rfl (by omega) (by simp only [QQ6,List.length_set];omega) (Zz hs)
   ·exact oa [13,15,16] fun D J w hs=>QhB (z:=gd m2 j) (j-1) QaH.1 hs 0 rfl rfl rfl (by first|omega|(simp only [List.length_set];omega)) rfl rfl rfl (Qa8 _) fun _ hs=>⟨trivial,hs⟩
   rintro J1 w9 J2 hJ hs
   replace hJ:J2=mix (sq 37 16) J1 _:=hJ
   replace hs:Own w S w9 [row (.slice a N c) (((m2.set j (gd m2 (j-1))).set (j-1) (gd m2 j)).map cec) 106 7]:=hs
   subst hJ
   replace hs:Own w S _ [row (.slice a N c) ((swL m2 j (j-1)).map cec) 106 7]:=hs.take 1
   refine Qab (Qaa (Qac (V:=I6 (j:Int)) rfl (Qaa (Qa7 (a:=(j:Int)) (b:=1) (c:=((j-1:Nat):Int)) rfl rfl (Qak (by omega) (by omega)) (Qaa (Qad (V:=I6 ((j-1:Nat):Int)) rfl (Qaf ?_)))))))
   refine ⟨_,?_,_,j-1,swL m2 j (j-1),Qai (Qao (ds:=([9]++sq 18 35)) (by repeat (first|exact Agr.refl _ _|refine Agr.upd ?_ rfl|refine Agr.mix ?_ rfl))) rfl,(by omega),(by omega),(by rw [QhR];exact hz2),(hpm2.trans (Qse (by omega) (by omega) (by omega) (by omega) (by omega))),(QpL hc hin (by omega) (by omega) (by omega) c6r),rfl,hs.take 1⟩
   omega
  refine QaF ?_
  have hor2:Qbi cf m2 lo (k+1):=QqZ hc hin hj0 (by
      have ht:=c6
      rcases Nat.lt_or_ge lo j with q|q
      ·right;intro h;simp [q,h] at ht
      ·left;omega)
  refine Qab (Qaa (Qac (V:=I6 (k:Int)) rfl (Qaa (QaD (a:=(k:Int)) (b:=1) (c:=((k+1:Nat):Int)) rfl rfl (Qak (by omega) (by omega)) (Qaa (Qad (V:=I6 ((k+1:Nat):Int)) rfl (Qaf ?_)))))))
  refine ⟨_,?_,_,k+1,m2,Qai (Qao (ds:=([8,9]++sq 12 41)) (by repeat (first|exact Agr.refl _ _|refine Agr.upd ?_ rfl|refine Agr.mix ?_ rfl))) rfl,(by omega),(by omega),hz2,hpm2,hor2,rfl,hs.take 1⟩
  omega
 replace c2:=QQ2 c2
 refine QaF ?_
 refine ⟨_,Qbr Tryz.results136,?_⟩
 refine ⟨m,rfl,hs.take 1,hz1,hpm,?_⟩
 rcases Nat.lt_or_ge k hi with q|q
 ·omega
 exact hor.sub (Nat.le_refl _) q
end Tt
end Go.Proofs
namespace Go.Proofs
open Go Go.Vx Go.RowKit
namespace Tt
theorem QlI (w:World) (S:Nat->Prop) (a:Option Addr) (N c:Nat) (l:List Cen) (hz:l.length=N) (hN:N<=2305843009213693951) (p q n:Nat) (hp:p+n<=N) (hq:q+n<=N) (g:Nat) (hg:En Tryz.prog g) (cf:Cen->Cen->Int) (hc:CmpO cf) (hcmp:∀ (w:World) (x y:Cen),Calls Tryz.prog g #[.agg (cec x).toArray,.agg (cec y).toArray] w (fun e w'=>e = .returned (.int .i64 (cf x y))/\Own w no w' [])) (hR:(row (.slice a N c) (l.map cec) 106 7).holds w S) (hlt:∀ b,S b->b<w.heap.size):Calls Tryz.prog 184 #[.slice a N c,.int .i64 (p:Int),.int .i64 (q:Int),.int .i64 (n:Int),.func (.func g) #[] #[]] w (fun e w'=>∃ x:List Cen,e = .returned (.tuple #[])/\Own w S w' [row (.slice a N c) (x.map cec) 106 7]/\(x.length=N/\x=swN l p q n)):=by
 refine Qaj (n:=38) Tryz.func184 rfl Tryz.ntmps184 rfl ?_
 have hs:=Own.lent hR hlt
 refine Qag (Qab (Qaa (Qad (V:=I6 0) rfl (Qaf (Qam (QaA (fun J μ J' w'=>∃ (Jo:Env) (k:Nat) (m:List Cen),J'=upd (mix (sq 10 28) Jo J) 10 (I6 (k:Int))/\(k<=n)/\(m.length=N)/\(m=swN l p q k)/\μ=n-k/\Own w S w' [row (.slice a N c) (m.map cec) 106 7]) ?_ ?_))))))
 ·exact ⟨_,_,0,l,Qai (Qao (ds:=(sq 10 28)) (Agr.refl _ _)) rfl,(Nat.zero_le _),hz,rfl,rfl,hs⟩
 rintro μ J' w1 ⟨Jo,k,m,rfl,hk,hz1,hm,rfl,hs⟩
 refine Qag (Qag (Qab (Qaa (Qac (V:=I6 (k:Int)) rfl (Qaa (Qac (V:=I6 (n:Int)) rfl (Qaa (QaQ rfl rfl (Qaf (Qan (t:=decide ((k:Int)<(n:Int))) rfl (fun c2=>?_) (fun c2=>?_)))))))))))
 ·
  replace c2:=QQ1 c2
  refine Qap (Qag (Qam (QaI HM [some 16,some 17,some 18,some 19,some 20,some 21,some 22,some 23,some 24,some 25,some 26,some 27,some 28,some 29,some 30,some 31,some 32,some 33,some 34,some 35,some 36,none,some 37,none] [] [0,0,0,6,0,0,0,96,0,0,0,1536,3840,7936,0,0,0,98304,245760,507904,1048335,2096911,4194303,8388607] [pv (.slice a N c),pv (I6 (p:Int)),pv (I6 (k:Int)),pv (I6 ((p+k:Nat):Int)),pv (.slice a N c),pv (I6 (q:Int)),pv (I6 (k:Int)),pv (I6 ((q+k:Nat):Int)),pv (.slice a N c),pv (I6 (q:Int)),pv (I6 (k:Int)),pv (I6 ((q+k:Nat):Int)),pv (.pointer (some ⟨bkS (.slice a N c),ofS (.slice a N c)+((q+k:Nat):Int).toNat*7,none⟩)),pv (.agg (cec (gd m (q+k))).toArray),pv (.slice a N c),pv (I6 (p:Int)),pv (I6 (k:Int)),pv (I6 ((p+k:Nat):Int)),pv (.pointer (some ⟨bkS (.slice a N c),ofS (.slice a N c)+((p+k:Nat):Int).toNat*7,none⟩)),pv (.agg (cec (gd m (p+k))).toArray),pv (.pointer (some ⟨bkS (.slice a N c),ofS (.slice a N c)+((p+k:Nat):Int).toNat*7,none⟩)),pn,pv (.pointer (some ⟨bkS (.slice a N c),ofS (.slice a N c)+((q+k:Nat):Int).toNat*7,none⟩)),pn] (fun D J=>[cond (D 23) (row (.slice a N c) (((m.set (p+k) (gd m (q+k))).set (q+k) (gd m (p+k))).map cec) 106 7) (cond (D 21) (row (.slice a N c) ((m.set (p+k) (gd m (q+k))).map cec) 106 7) (row (.slice a N c) (m.map cec) 106 7))]) [] (by kernel_rfl) hs ⟨?_,?_,?_,?_,?_,?_,?_,?_,?_,?_,?_,?_,?_,?_,?_,?_,?_,?_,?_,?_,?_,?_,?_,?_,trivial⟩ ?_)))
  ·exact oa [] fun D J w hs=>Qac (V:=.slice a N c) rfl (Zz hs)
  ·exact oa [] fun D J w hs=>Qac (V:=.int .i64 (p:Int)) rfl (Zz hs)
  ·exact oa [] fun D J w hs=>Qac (V:=.int .i64 (k:Int)) rfl (Zz hs)
  ·exact oa [1,2] fun D J w hs=>QaD (a:=(p:Int)) (b:=(k:Int)) (c:=((p+k:Nat):Int)) rfl rfl (Qak (by omega) (by omega)) (Zz hs)
  ·exact oa [] fun D J w hs=>Qac (V:=.slice a N c) rfl (Zz hs)
  ·exact oa [] fun D J w hs=>Qac (V:=.int .i64 (q:Int)) rfl (Zz hs)
  ·exact oa [] fun D J w hs=>Qac (V:=.int .i64 (k:Int)) rfl (Zz hs)
  ·exact oa [5,6] fun D J w hs=>QaD (a:=(q:Int)) (b:=(k:Int)) (c:=((q+k:Nat):Int)) rfl rfl (Qak (by omega) (by omega)) (Zz hs)
  ·exact oa [] fun D J w hs=>Qac (V:=.slice a N c) rfl (Zz hs)
  ·exact oa [] fun D J w hs=>Qac (V:=.int .i64 (q:Int)) rfl (Zz hs)
  ·exact oa [] fun D J w hs=>Qac (V:=.int .i64 (k:Int)) rfl (Zz hs)
  ·exact oa [9,10] fun D J w hs=>QaD (a:=(q:Int)) (b:=(k:Int)) (c:=((q+k:Nat):Int)) rfl rfl (Qak (by omega) (by omega)) (Zz hs)
  ·exact ob [8,11] [21,23] rfl rfl fun D J w hs=>Qaw QbM QaH.1 (hs.rd 0 rfl) rfl rfl (by omega) (by rw [QQ6];omega) (Zz hs)
  ·exact ob [12] [21,23] rfl rfl fun D J w hs=>Qa1 (j:=0) (vs:=cec (gd m (q+k))) (q+k) QaH (hs.rd 0 rfl) (QaT (by omega)) rfl rfl rfl (by omega) (Zz hs)
  ·exact oa [] fun D J w hs=>Qac (V:=.slice a N c) rfl (Zz hs)
  ·exact oa [] fun D J w hs=>Qac (V:=.int .i64 (p:Int)) rfl (Zz hs)
  ·exact oa [] fun D J w hs=>Qac (V:=.int .i64 (k:Int)) rfl (Zz hs)
  ·exact oa [15,16] fun D J w hs=>QaD (a:=(p:Int)) (b:=(k:Int)) (c:=((p+k:Nat):Int)) rfl rfl (Qak (by omega) (by omega)) (Zz hs)
  ·exact ob [14,17] [21,23] rfl rfl fun D J w hs=>Qaw QbM QaH.1 (hs.rd 0 rfl) rfl rfl (by omega) (by rw [QQ6];omega) (Zz hs)
  ·exact ob [18] [21,23] rfl rfl fun D J w hs=>Qa1 (j:=0) (vs:=cec (gd m (p+k))) (p+k) QaH (hs.rd 0 rfl) (QaT (by omega)) rfl rfl rfl (by omega) (Zz hs)
  ·exact ob [0,3] [21,23] rfl rfl fun D J w hs=>Qaw QbM QaH.1 (hs.rd 0 rfl) rfl rfl (by omega) (by rw [QQ6];omega) (Zz hs)
  ·exact ob [13,20] [23] rfl rfl fun D J w hs=>QhB (z:=gd m (q+k)) (p+k) QaH.1 hs 0 rfl rfl rfl (by first|omega|(simp only [List.length_set];omega)) rfl rfl rfl (Qa8 _) fun _ hs=>⟨trivial,hs⟩
  ·exact ob [4,7,21] [23] rfl rfl fun D J w hs=>Qaw QbM QaH.1 (hs.rd 0 rfl) rfl rfl (by omega) (by simp only [QQ6,List.length_set];omega) (Zz hs)
  ·exact oa [19,21,22] fun D J w hs=>QhB (z:=gd m (p+k)) (q+k) QaH.1 hs 0 rfl rfl rfl (by first|omega|(simp only [List.length_set];omega)) rfl rfl rfl (Qa8 _) fun _ hs=>⟨trivial,hs⟩
  rintro J1 w5 J2 hJ hs
  replace hJ:J2=mix (sq 16 22) J1 _:=hJ
  replace hs:Own w S w5 [row (.slice a N c) (((m.set (p+k) (gd m (q+k))).set (q+k) (gd m (p+k))).map cec) 106 7]:=hs
  subst hJ
  replace hs:Own w S _ [row (.slice a N c) ((swL m (p+k) (q+k)).map cec) 106 7]:=hs.take 1
  refine Qab (Qaa (Qac (V:=I6 (k:Int)) rfl (Qaa (QaD (a:=(k:Int)) (b:=1) (c:=((k+1:Nat):Int)) rfl rfl (Qak (by omega) (by omega)) (Qaa (Qad (V:=I6 ((k+1:Nat):Int)) rfl (Qaf ?_)))))))
  refine ⟨_,?_,_,k+1,swL m (p+k) (q+k),Qai (Qao (ds:=(sq 10 28)) (by repeat (first|exact Agr.refl _ _|refine Agr.upd ?_ rfl|refine Agr.mix ?_ rfl))) rfl,(by omega),(by rw [QhR];exact hz1),(by rw [QkB,← hm]),rfl,hs.take 1⟩
  omega
 replace c2:=QQ2 c2
 refine QaF ?_
 refine ⟨_,Qbr Tryz.results184,?_⟩
 exact ⟨m,rfl,hs.take 1,hz1,by rw [hm,show k=n by omega]⟩
theorem Qub (w:World) (S:Nat->Prop) (a:Option Addr) (N c:Nat) (l:List Cen) (hz:l.length=N) (hN:N<=2305843009213693951) (lo mid hi:Nat) (h1:lo<mid) (h2:mid<hi) (h3:hi<=N) (g:Nat) (hg:En Tryz.prog g) (cf:Cen->Cen->Int) (hc:CmpO cf) (hcmp:∀ (w:World) (x y:Cen),Calls Tryz.prog g #[.agg (cec x).toArray,.agg (cec y).toArray] w (fun e w'=>e = .returned (.int .i64 (cf x y))/\Own w no w' [])) (hR:(row (.slice a N c) (l.map cec) 106 7).holds w S) (hlt:∀ b,S b->b<w.heap.size):Calls Tryz.prog 170 #[.slice a N c,.int .i64 (lo:Int),.int .i64 (mid:Int),.int .i64 (hi:Int),.func (.func g) #[] #[]] w (fun e w'=>∃ x:List Cen,e = .returned (.tuple #[])/\Own w S w' [row (.slice a N c) (x.map cec) 106 7]/\(x.length=N/\Qb7 l x lo mid hi)):=by
 refine Qaj (n:=58) Tryz.func170 rfl Tryz.ntmps170 rfl ?_
 have hs:=Own.lent hR hlt
 obtain ⟨t,hrt,hro0⟩:=Qjk (l:=l) (a:=lo) (m:=mid) (b:=hi) (by omega) (by omega) (by omega)
 refine Qag (Qab (Qaa (Qac (V:=I6 (mid:Int)) rfl (Qaa (Qac (V:=I6 (lo:Int)) rfl (Qaa (Qa7 (a:=(mid:Int)) (b:=(lo:Int)) (c:=((mid-lo:Nat):Int)) rfl rfl (Qak (by omega) (by omega)) (Qaa (Qad (V:=I6 ((mid-lo:Nat):Int)) rfl (Qaf (Qag (Qab (Qaa (Qac (V:=I6 (hi:Int)) rfl (Qaa (Qac (V:=I6 (mid:Int)) rfl (Qaa (Qa7 (a:=(hi:Int)) (b:=(mid:Int)) (c:=((hi-mid:Nat):Int)) rfl rfl (Qak (by omega) (by omega)) (Qaa (Qad (V:=I6 ((hi-mid:Nat):Int)) rfl (Qaf (Qag (Qam (QaA (fun J μ J' w'=>∃ (Jo:Env) (i:Nat) (j:Nat) (m:List Cen),J'=upd (upd (mix ([10,11]++sq 18 32) Jo J) 10 (I6 (i:Int))) 11 (I6 (j:Int))/\(0<i)/\(0<j)/\(m.length=N)/\(Qi0 m t mid i j)/\μ=i+j/\Own w S w' [row (.slice a N c) (m.map cec) 106 7]) ?_ ?_))))))))))))))))))))))))
 ·exact ⟨_,_,mid-lo,hi-mid,l,Qai (Qai (Qao (ds:=([10,11]++sq 18 32)) (Agr.refl _ _)) rfl) rfl,(by omega),(by omega),hz,hro0,rfl,hs⟩
 rintro μ J' w1 ⟨Jo,i,j,m,rfl,hi0,hj0,hz1,hro,rfl,hs⟩
 have hrl:=Qic hro
 refine Qag (Qag (Qab (Qaa (Qac (V:=I6 (i:Int)) rfl (Qaa (Qac (V:=I6 (j:Int)) rfl (Qaa (Qch rfl rfl (Qaf (Qan (t:=!decide ((i:Int)=(j:Int))) rfl (fun c2=>?_) (fun c2=>?_)))))))))))
 ·
  replace c2:=Qbn c2
  replace c2:=QQ2 c2
  refine Qap (Qam (Qag (Qab (Qaa (Qac (V:=I6 (i:Int)) rfl (Qaa (Qac (V:=I6 (j:Int)) rfl (Qaa (QbY rfl rfl (Qaf (Qan (t:=decide ((j:Int)<(i:Int))) rfl (fun c3=>?_) (fun c3=>?_))))))))))))
  ·
   replace c3:=QQ1 c3
   refine Qag (Qab (Qaa (Qac (V:=.slice a N c) rfl (Qaa (Qac (V:=I6 (mid:Int)) rfl (Qaa (Qac (V:=I6 (i:Int)) rfl (Qaa (Qa7 (a:=(mid:Int)) (b:=(i:Int)) (c:=((mid-i:Nat):Int)) rfl rfl (Qak (by omega) (by omega)) (Qaa (Qac (V:=I6 (mid:Int)) rfl (Qaa (Qac (V:=I6 (j:Int)) rfl (Qaa (Qac (V:=.func (.func g) #[] #[]) rfl (Qaa (Qbv (α:=List Cen) (vs:=[.slice a N c,I6 ((mid-i:Nat):Int),I6 (mid:Int),I6 (j:Int),.func (.func g) #[] #[]]) (V:=fun _=>.tuple #[]) (R:=row (.slice a N c) (m.map cec) 106 7) (R':=fun x=>row (.slice a N c) (x.map cec) 106 7) (Lo:=fun _=>[]) (F:=fun x _=>x.length=N/\x=swN m (mid-i) mid j) QlJ rfl rfl hs 0 rfl (fun S hS hlt=>QlI _ S a N c m (by first|assumption|omega) hN (mid-i) mid j (by omega) (by omega) g hg cf hc hcmp hS hlt) fun mz4 w5 hs hF6=>(Qaf (Qab (Qaa (Qac (V:=I6 (i:Int)) rfl (Qaa (Qac (V:=I6 (j:Int)) rfl (Qaa (Qa7 (a:=(i:Int)) (b:=(j:Int)) (c:=((i-j:Nat):Int)) rfl rfl (Qak (by omega) (by omega)) (Qaa (Qad (V:=I6 ((i-j:Nat):Int)) rfl (Qaf ?_))))))))))))))))))))))))))))
   refine ⟨_,?_,_,i-j,j,mz4,Qai (Qai (Qao (ds:=([10,11]++sq 18 32)) (by repeat (first|exact Agr.refl _ _|refine Agr.upd ?_ rfl|refine Agr.mix ?_ rfl))) rfl) rfl,(by omega),(by omega),hF6.1,(by rw [hF6.2];exact Qof hro (by omega)),rfl,hs.take 1⟩
   omega
  replace c3:=QQ2 c3
  refine Qag (Qab (Qaa (Qac (V:=.slice a N c) rfl (Qaa (Qac (V:=I6 (mid:Int)) rfl (Qaa (Qac (V:=I6 (i:Int)) rfl (Qaa (Qa7 (a:=(mid:Int)) (b:=(i:Int)) (c:=((mid-i:Nat):Int)) rfl rfl (Qak (by omega) (by omega)) (Qaa (Qac (V:=I6 (mid:Int)) rfl (Qaa (Qac (V:=I6 (j:Int)) rfl (Qaa (QaD (a:=(mid:Int)) (b:=(j:Int)) (c:=((mid+j:Nat):Int)) rfl rfl (Qak (by omega) (by omega)) (Qaa (Qac (V:=I6 (i:Int)) rfl (Qaa (Qa7 (a:=((mid+j:Nat):Int)) (b:=(i:Int)) (c:=(((mid+j)-i:Nat):Int)) rfl rfl (Qak (by omega) (by omega)) (Qaa (Qac (V:=I6 (i:Int)) rfl (Qaa (Qac (V:=.func (.func g) #[] #[]) rfl (Qaa (Qbv (α:=List Cen) (vs:=[.slice a N c,I6 ((mid-i:Nat):Int),I6 (((mid+j)-i:Nat):Int),I6 (i:Int),.func (.func g) #[] #[]]) (V:=fun _=>.tuple #[]) (R:=row (.slice a N c) (m.map cec) 106 7) (R':=fun x=>row (.slice a N c) (x.map cec) 106 7) (Lo:=fun _=>[]) (F:=fun x _=>x.length=N/\x=swN m (mid-i) ((mid+j)-i) i) QlJ rfl rfl hs 0 rfl (fun S hS hlt=>QlI _ S a N c m (by first|assumption|omega) hN (mid-i) ((mid+j)-i) i (by omega) (by omega) g hg cf hc hcmp hS hlt) fun mz7 w8 hs hF9=>(Qaf (Qab (Qaa (Qac (V:=I6 (j:Int)) rfl (Qaa (Qac (V:=I6 (i:Int)) rfl (Qaa (Qa7 (a:=(j:Int)) (b:=(i:Int)) (c:=((j-i:Nat):Int)) rfl rfl (Qak (by omega) (by omega)) (Qaa (Qad (V:=I6 ((j-i:Nat):Int)) rfl (Qaf ?_))))))))))))))))))))))))))))))))))))
  refine ⟨_,?_,_,i,j-i,mz7,Qai (Qai (Qao (ds:=([10,11]++sq 18 32)) (by repeat (first|exact Agr.refl _ _|refine Agr.upd ?_ rfl|refine Agr.mix ?_ rfl))) rfl) rfl,(by omega),(by omega),hF9.1,(by rw [hF9.2];exact QpS hro (by omega)),rfl,hs.take 1⟩
  omega
 replace c2:=Qbf c2
 replace c2:=QQ1 c2
 refine QaF ?_
 have hrl:=Qic hro
 have hij:i=j:=by omega
 refine Qab (Qaa (Qac (V:=.slice a N c) rfl (Qaa (Qac (V:=I6 (mid:Int)) rfl (Qaa (Qac (V:=I6 (i:Int)) rfl (Qaa (Qa7 (a:=(mid:Int)) (b:=(i:Int)) (c:=((mid-i:Nat):Int)) rfl rfl (Qak (by omega) (by omega)) (Qaa (Qac (V:=I6 (mid:Int)) rfl (Qaa (Qac (V:=I6 (i:Int)) rfl (Qaa (Qac (V:=.func (.func g) #[] #[]) rfl (Qaa (Qbv (α:=List Cen) (vs:=[.slice a N c,I6 ((mid-i:Nat):Int),I6 (mid:Int),I6 (i:Int),.func (.func g) #[] #[]]) (V:=fun _=>.tuple #[]) (R:=row (.slice a N c) (m.map cec) 106 7) (R':=fun x=>row (.slice a N c) (x.map cec) 106 7) (Lo:=fun _=>[]) (F:=fun x _=>x.length=N/\x=swN m (mid-i) mid i) QlJ rfl rfl hs 0 rfl (fun S hS hlt=>QlI _ S a N c m (by first|assumption|omega) hN (mid-i) mid i (by omega) (by omega) g hg cf hc hcmp hS hlt) fun mz10 w11 hs hF12=>(Qaf ?_)))))))))))))))))
 refine ⟨_,Qbr Tryz.results170,?_⟩
 have hxt:mz10=t:=by rw [hF12.2];exact QoG hro (by omega)
 rw [hxt] at hs
 exact ⟨t,rfl,hs.take 1,by rw [← hxt];exact hF12.1,hrt⟩
end Tt
end Go.Proofs
namespace Go.Proofs
open Go Go.Vx Go.RowKit
namespace Tt
theorem Qmf (d:Nat) (g:Nat) (hg:En Tryz.prog g) (cf:Cen->Cen->Int) (hc:CmpO cf) (hcmp:∀ (w:World) (x y:Cen),Calls Tryz.prog g #[.agg (cec x).toArray,.agg (cec y).toArray] w (fun e w'=>e = .returned (.int .i64 (cf x y))/\Own w no w' [])) (ih:QtH Tryz.prog 157 g 106 7 cec cf d) (w:World) (S:Nat->Prop) (a:Option Addr) (N c:Nat) (l:List Cen) (lo mid hi:Nat) (hz:l.length=N) (hN:N<=2305843009213693951) (hd:hi-lo<=d+1) (h1:lo<mid) (h2:mid<hi) (h3:hi<=N) (ho1:Qbi cf l lo mid) (ho2:Qbi cf l mid hi) (hR:(row (.slice a N c) (l.map cec) 106 7).holds w S) (hlt:∀ b,S b->b<w.heap.size):Calls Tryz.prog 157 #[.slice a N c,.int .i64 (lo:Int),.int .i64 (mid:Int),.int .i64 (hi:Int),.func (.func g) #[] #[]] w (fun e w'=>∃ x:List Cen,e = .returned (.tuple #[])/\Own w S w' [row (.slice a N c) (x.map cec) 106 7]/\(x.length=N/\Merged cf l x lo hi)):=by
 refine Qaj (n:=220) Tryz.func157 rfl Tryz.ntmps157 rfl ?_
 have hs:=Own.lent hR hlt
 refine Qag (Qag (Qab (Qaa (Qac (V:=I6 (mid:Int)) rfl (Qaa (Qac (V:=I6 (lo:Int)) rfl (Qaa (Qa7 (a:=(mid:Int)) (b:=(lo:Int)) (c:=((mid-lo:Nat):Int)) rfl rfl (Qak (by omega) (by omega)) (Qaa (QaS rfl rfl (Qaf (Qan (t:=decide (((mid-lo:Nat):Int)=1)) rfl (fun c1=>?_) (fun c1=>?_)))))))))))))
 ·
  replace c1:=QQ1 c1
  refine Qag (Qab (Qaa (Qac (V:=I6 (mid:Int)) rfl (Qaa (Qad (V:=I6 (mid:Int)) rfl (Qaf (Qag (Qab (Qaa (Qac (V:=I6 (hi:Int)) rfl (Qaa (Qad (V:=I6 (hi:Int)) rfl (Qaf (Qag (Qam (QaA (fun J μ J' w'=>∃ (Jo:Env) (i:Nat) (j:Nat),J'=upd (upd (mix ([10,11,12]++sq 31 23) Jo J) 10 (I6 (i:Int))) 11 (I6 (j:Int))/\(mid<=i)/\(i<=j)/\(j<=hi)/\(i=mid∨cf (gd l (i-1)) (gd l lo)<0)/\(j=hi∨¬cf (gd l j) (gd l lo)<0)/\μ=j-i/\Own w S w' [row (.slice a N c) (l.map cec) 106 7]) ?_ ?_))))))))))))))))
  ·exact ⟨_,_,mid,hi,Qai (Qai (Qao (ds:=([10,11,12]++sq 31 23)) (Agr.refl _ _)) rfl) rfl,(Nat.le_refl _),(by omega),(Nat.le_refl _),(Or.inl rfl),(Or.inl rfl),rfl,hs⟩
  rintro μ J' w2 ⟨Jo,i,j,rfl,hi1,hij,hj1,hi2,hj2,rfl,hs⟩
  refine Qag (Qag (Qab (Qaa (Qac (V:=I6 (i:Int)) rfl (Qaa (Qac (V:=I6 (j:Int)) rfl (Qaa (QaQ rfl rfl (Qaf (Qan (t:=decide ((i:Int)<(j:Int))) rfl (fun c3=>?_) (fun c3=>?_)))))))))))
  ·
   replace c3:=QQ1 c3
   refine Qap (Qam (Qag (Qab (Qaa (Qac (V:=I6 (i:Int)) rfl (Qaa (Qac (V:=I6 (j:Int)) rfl (Qaa (QaD (a:=(i:Int)) (b:=(j:Int)) (c:=((i+j:Nat):Int)) rfl rfl (Qak (by omega) (by omega)) (Qaa (QbU Qg2 QdV rfl (Qdk (by omega) (by omega)) (Qaa (Qiu rfl rfl (Qaa (QbU QdV Qg2 rfl (QbH (by omega) (by omega)) (Qaa (Qad (V:=I6 (((i+j)/2:Nat):Int)) rfl (Qaf (Qag (QaI HM [some 40,some 41,some 42,some 43,some 44,some 45,some 46,some 47,some 48,some 49,some 50] [] [0,0,0,6,14,0,0,96,224,511,1023] [pv (.func (.func g) #[] #[]),pv (.slice a N c),pv (I6 (((i+j)/2:Nat):Int)),pv (.pointer (some ⟨bkS (.slice a N c),ofS (.slice a N c)+(((i+j)/2:Nat):Int).toNat*7,none⟩)),pv (.agg (cec (gd l ((i+j)/2))).toArray),pv (.slice a N c),pv (I6 (lo:Int)),pv (.pointer (some ⟨bkS (.slice a N c),ofS (.slice a N c)+(lo:Int).toNat*7,none⟩)),pv (.agg (cec (gd l lo)).toArray),pv (I6 (cf (gd l ((i+j)/2)) (gd l lo))),pv (.bool (decide (cf (gd l ((i+j)/2)) (gd l lo)<0)))] (fun _ _=>_) [10] (by kernel_rfl) hs ⟨?_,?_,?_,?_,?_,?_,?_,?_,?_,?_,?_,trivial⟩ ?_))))))))))))))))))))
   ·exact oa [] fun D J w hs=>Qac (V:=.func (.func g) #[] #[]) rfl (Zz hs)
   ·exact oa [] fun D J w hs=>Qac (V:=.slice a N c) rfl (Zz hs)
   ·exact oa [] fun D J w hs=>Qac (V:=.int .i64 (((i+j)/2:Nat):Int)) rfl (Zz hs)
   ·exact oa [1,2] fun D J w hs=>Qaw QbM QaH.1 (hs.rd 0 rfl) rfl rfl (by omega) (by rw [QQ6];omega) (Zz hs)
   ·exact oa [3] fun D J w hs=>Qa1 (j:=0) (vs:=cec (gd l ((i+j)/2))) ((i+j)/2) QaH (hs.rd 0 rfl) (QaT (by omega)) rfl rfl rfl (by omega) (Zz hs)
   ·exact oa [] fun D J w hs=>Qac (V:=.slice a N c) rfl (Zz hs)
   ·exact oa [] fun D J w hs=>Qac (V:=.int .i64 (lo:Int)) rfl (Zz hs)
   ·exact oa [5,6] fun D J w hs=>Qaw QbM QaH.1 (hs.rd 0 rfl) rfl rfl (by omega) (by rw [QQ6];omega) (Zz hs)
   ·exact oa [7] fun D J w hs=>Qa1 (j:=0) (vs:=cec (gd l lo)) lo QaH (hs.rd 0 rfl) (QaT (by omega)) rfl rfl rfl (by omega) (Zz hs)
   ·exact oa [0,4,8] fun D J w hs=>Qgw (vs:=[.agg (cec (gd l ((i+j)/2))).toArray,.agg (cec (gd l lo)).toArray]) (cs:=[]) (V:=.int .i64 (cf (gd l ((i+j)/2)) (gd l lo))) hg rfl rfl (hcmp _ (gd l ((i+j)/2)) (gd l lo)) hs fun _ hs=>Zz hs
   ·exact oa [9] fun D J w hs=>QaQ rfl rfl (Zz hs)
   rintro J1 w5 J2 hJ hs
   replace hJ:J2=upd (mix (sq 40 11) J1 _) 50 (.bool (decide (cf (gd l ((i+j)/2)) (gd l lo)<0))):=hJ
   subst hJ
   refine Qan (t:=decide (cf (gd l ((i+j)/2)) (gd l lo)<0)) rfl (fun c6=>?_) (fun c6=>?_)
   ·
    replace c6:=QQ1 c6
    refine Qab (Qaa (Qac (V:=I6 (((i+j)/2:Nat):Int)) rfl (Qaa (QaD (a:=(((i+j)/2:Nat):Int)) (b:=1) (c:=((((i+j)/2)+1:Nat):Int)) rfl rfl (Qak (by omega) (by omega)) (Qaa (Qad (V:=I6 ((((i+j)/2)+1:Nat):Int)) rfl (Qaf ?_)))))))
    refine ⟨_,?_,_,((i+j)/2)+1,j,Qai (Qai (Qao (ds:=([10,11,12]++sq 31 23)) (by repeat (first|exact Agr.refl _ _|refine Agr.upd ?_ rfl|refine Agr.mix ?_ rfl))) rfl) rfl,(by omega),(by omega),(by omega),(Or.inr (by rw [Nat.add_sub_cancel];exact c6)),hj2,rfl,hs.take 1⟩
    omega
   replace c6:=QQ2 c6
   refine Qab (Qaa (Qac (V:=I6 (((i+j)/2:Nat):Int)) rfl (Qaa (Qad (V:=I6 (((i+j)/2:Nat):Int)) rfl (Qaf ?_)))))
   refine ⟨_,?_,_,i,(i+j)/2,Qai (Qai (Qao (ds:=([10,11,12]++sq 31 23)) (by repeat (first|exact Agr.refl _ _|refine Agr.upd ?_ rfl|refine Agr.mix ?_ rfl))) rfl) rfl,(by omega),(by omega),(by omega),hi2,(Or.inr c6),rfl,hs.take 1⟩
   omega
  replace c3:=QQ2 c3
  refine QaF (Qag (Qag (Qab (Qaa (Qac (V:=I6 (lo:Int)) rfl (Qaa (Qad (V:=I6 (lo:Int)) rfl (Qaf (Qam ?_)))))))))
  have hie:i=j:=by omega
  refine QaA (fun J μ J' w'=>∃ (Jo:Env) (k:Nat) (m:List Cen),J'=upd (mix ([13]++sq 55 22) Jo J) 13 (I6 (k:Int))/\(lo<=k)/\(k+1<=i)/\(m.length=N)/\(Qb7 l m lo (lo+1) (k+1))/\μ=i-k/\Own w S w' [row (.slice a N c) (m.map cec) 106 7]) ?_ ?_
  ·exact ⟨_,_,lo,l,Qai (Qao (ds:=([13]++sq 55 22)) (Agr.refl _ _)) rfl,(Nat.le_refl _),(by omega),hz,(Qb7.refl (by omega) (by omega) (by omega) (Or.inr rfl)),rfl,hs⟩
  rintro μ J' w7 ⟨Jo,k,m,rfl,hk1,hk2,hz1,hro,rfl,hs⟩
  refine Qag (Qag (Qab (Qaa (Qac (V:=I6 (k:Int)) rfl (Qaa (Qac (V:=I6 (i:Int)) rfl (Qaa (Qa7 (a:=(i:Int)) (b:=1) (c:=((i-1:Nat):Int)) rfl rfl (Qak (by omega) (by omega)) (Qaa (QaQ rfl rfl (Qaf (Qan (t:=decide ((k:Int)<((i-1:Nat):Int))) rfl (fun c8=>?_) (fun c8=>?_)))))))))))))
  ·
   replace c8:=QQ1 c8
   refine Qap (Qag (Qam (QaI HM [some 61,some 62,some 63,some 64,some 65,some 66,some 67,some 68,some 69,some 70,some 71,some 72,some 73,some 74,some 75,none,some 76,none] [] [0,0,0,0,8,0,0,64,224,480,0,0,3072,7168,16355,32739,65535,131071] [pv (.slice a N c),pv (I6 (k:Int)),pv (.slice a N c),pv (I6 (k:Int)),pv (I6 ((k+1:Nat):Int)),pv (.slice a N c),pv (I6 (k:Int)),pv (I6 ((k+1:Nat):Int)),pv (.pointer (some ⟨bkS (.slice a N c),ofS (.slice a N c)+((k+1:Nat):Int).toNat*7,none⟩)),pv (.agg (cec (gd m (k+1))).toArray),pv (.slice a N c),pv (I6 (k:Int)),pv (.pointer (some ⟨bkS (.slice a N c),ofS (.slice a N c)+(k:Int).toNat*7,none⟩)),pv (.agg (cec (gd m k)).toArray),pv (.pointer (some ⟨bkS (.slice a N c),ofS (.slice a N c)+(k:Int).toNat*7,none⟩)),pn,pv (.pointer (some ⟨bkS (.slice a N c),ofS (.slice a N c)+((k+1:Nat):Int).toNat*7,none⟩)),pn] (fun D J=>[cond (D 17) (row (.slice a N c) (((m.set k (gd m (k+1))).set (k+1) (gd m k)).map cec) 106 7) (cond (D 15) (row (.slice a N c) ((m.set k (gd m (k+1))).map cec) 106 7) (row (.slice a N c) (m.map cec) 106 7))]) [] (by kernel_rfl) hs ⟨?_,?_,?_,?_,?_,?_,?_,?_,?_,?_,?_,?_,?_,?_,?_,?_,?_,?_,trivial⟩ ?_)))
   ·exact oa [] fun D J w hs=>Qac (V:=.slice a N c) rfl (Zz hs)
   ·exact oa [] fun D J w hs=>Qac (V:=.int .i64 (k:Int)) rfl (Zz hs)
   ·exact oa [] fun D J w hs=>Qac (V:=.slice a N c) rfl (Zz hs)
   ·exact oa [] fun D J w hs=>Qac (V:=.int .i64 (k:Int)) rfl (Zz hs)
   ·exact oa [3] fun D J w hs=>QaD (a:=(k:Int)) (b:=1) (c:=((k+1:Nat):Int)) rfl rfl (Qak (by omega) (by omega)) (Zz hs)
   ·exact oa [] fun D J w hs=>Qac (V:=.slice a N c) rfl (Zz hs)
   ·exact oa [] fun D J w hs=>Qac (V:=.int .i64 (k:Int)) rfl (Zz hs)
   ·exact oa [6] fun D J w hs=>QaD (a:=(k:Int)) (b:=1) (c:=((k+1:Nat):Int)) rfl rfl (Qak (by omega) (by omega)) (Zz hs)
   ·exact ob [5,7] [15,17] rfl rfl fun D J w hs=>Qaw QbM QaH.1 (hs.rd 0 rfl) rfl rfl (by omega) (by rw [QQ6];omega) (Zz hs)
   ·exact ob [8] [15,17] rfl rfl fun D J w hs=>Qa1 (j:=0) (vs:=cec (gd m (k+1))) (k+1) QaH (hs.rd 0 rfl) (QaT (by omega)) rfl rfl rfl (by omega) (Zz hs)
   ·exact oa [] fun D J w hs=>Qac (V:=.slice a N c) rfl (Zz hs)
   ·exact oa [] fun D J w hs=>Qac (V:=.int .i64 (k:Int)) rfl (Zz hs)
   ·exact ob [10,11] [15,17] rfl rfl fun D J w hs=>Qaw QbM QaH.1 (hs.rd 0 rfl) rfl rfl (by omega) (by rw [QQ6];omega) (Zz hs)
   ·exact ob [12] [15,17] rfl rfl fun D J w hs=>Qa1 (j:=0) (vs:=cec (gd m k)) k QaH (hs.rd 0 rfl) (QaT (by omega)) rfl rfl rfl (by omega) (Zz hs)
   ·exact ob [0,1] [15,17] rfl rfl fun D J w hs=>Qaw QbM QaH.1 (hs.rd 0 rfl) rfl rfl (by omega) (by rw [QQ6];omega) (Zz hs)
   ·exact ob [9,14] [17] rfl rfl fun D J w hs=>QhB (z:=gd m (k+1)) k QaH.1 hs 0 rfl rfl rfl (by first|omega|(simp only [List.length_set];omega)) rfl rfl rfl (Qa8 _) fun _ hs=>⟨trivial,hs⟩
   ·exact ob [2,4,15] [17] rfl rfl fun D J w hs=>Qaw QbM QaH.1 (hs.rd 0 rfl) rfl rfl (by omega) (by simp only [QQ6,List.length_set];omega) (Zz hs)
   ·exact oa [13,15,16] fun D J w hs=>QhB (z:=gd m k) (k+1) QaH.1 hs 0 rfl rfl rfl (by first|omega|(simp only [List.length_set];omega)) rfl rfl rfl (Qa8 _) fun _ hs=>⟨trivial,hs⟩
   rintro J1 w11 J2 hJ hs
   replace hJ:J2=mix (sq 61 16) J1 _:=hJ
   replace hs:Own w S w11 [row (.slice a N c) (((m.set k (gd m (k+1))).set (k+1) (gd m k)).map cec) 106 7]:=hs
   subst hJ
   replace hs:Own w S _ [row (.slice a N c) ((swL m k (k+1)).map cec) 106 7]:=hs.take 1
   refine Qab (Qaa (Qac (V:=I6 (k:Int)) rfl (Qaa (QaD (a:=(k:Int)) (b:=1) (c:=((k+1:Nat):Int)) rfl rfl (Qak (by omega) (by omega)) (Qaa (Qad (V:=I6 ((k+1:Nat):Int)) rfl (Qaf ?_)))))))
   refine ⟨_,?_,_,k+1,swL m k (k+1),Qai (Qao (ds:=([13]++sq 55 22)) (by repeat (first|exact Agr.refl _ _|refine Agr.upd ?_ rfl|refine Agr.mix ?_ rfl))) rfl,(by omega),(by omega),(by rw [QhR];exact hz1),(Qt4 hro (by omega)),rfl,hs.take 1⟩
   omega
  replace c8:=QQ2 c8
  refine QaF (Qau ?_)
  refine ⟨_,Qbr Tryz.results157,?_⟩
  have hke:k+1=i:=by omega
  rw [hke] at hro
  exact ⟨m,rfl,hs.take 1,hz1,Qtk hc (by rw [show lo+1=mid by omega];exact ho2) (by omega) (by omega) (by omega) hro (by rw [hie];exact hj2) (by rw [show lo+1=mid by omega];exact hi2)⟩
 replace c1:=QQ2 c1
 refine Qap (Qag (Qag (Qab (Qaa (Qac (V:=I6 (hi:Int)) rfl (Qaa (Qac (V:=I6 (mid:Int)) rfl (Qaa (Qa7 (a:=(hi:Int)) (b:=(mid:Int)) (c:=((hi-mid:Nat):Int)) rfl rfl (Qak (by omega) (by omega)) (Qaa (QaS rfl rfl (Qaf (Qan (t:=decide (((hi-mid:Nat):Int)=1)) rfl (fun c12=>?_) (fun c12=>?_))))))))))))))
 ·
  replace c12:=QQ1 c12
  refine Qag (Qab (Qaa (Qac (V:=I6 (lo:Int)) rfl (Qaa (Qad (V:=I6 (lo:Int)) rfl (Qaf (Qag (Qab (Qaa (Qac (V:=I6 (mid:Int)) rfl (Qaa (Qad (V:=I6 (mid:Int)) rfl (Qaf (Qag (Qam (QaA (fun J μ J' w'=>∃ (Jo:Env) (i:Nat) (j:Nat),J'=upd (upd (mix ([14,15,16]++sq 83 24) Jo J) 14 (I6 (i:Int))) 15 (I6 (j:Int))/\(lo<=i)/\(i<=j)/\(j<=mid)/\(i=lo∨¬cf (gd l mid) (gd l (i-1))<0)/\(j=mid∨cf (gd l mid) (gd l j)<0)/\μ=j-i/\Own w S w' [row (.slice a N c) (l.map cec) 106 7]) ?_ ?_))))))))))))))))
  ·exact ⟨_,_,lo,mid,Qai (Qai (Qao (ds:=([14,15,16]++sq 83 24)) (Agr.refl _ _)) rfl) rfl,(Nat.le_refl _),(by omega),(Nat.le_refl _),(Or.inl rfl),(Or.inl rfl),rfl,hs⟩
  rintro μ J' w13 ⟨Jo,i,j,rfl,hi1,hij,hj1,hi2,hj2,rfl,hs⟩
  refine Qag (Qag (Qab (Qaa (Qac (V:=I6 (i:Int)) rfl (Qaa (Qac (V:=I6 (j:Int)) rfl (Qaa (QaQ rfl rfl (Qaf (Qan (t:=decide ((i:Int)<(j:Int))) rfl (fun c14=>?_) (fun c14=>?_)))))))))))
  ·
   replace c14:=QQ1 c14
   refine Qap (Qam (Qag (Qab (Qaa (Qac (V:=I6 (i:Int)) rfl (Qaa (Qac (V:=I6 (j:Int)) rfl (Qaa (QaD (a:=(i:Int)) (b:=(j:Int)) (c:=((i+j:Nat):Int)) rfl rfl (Qak (by omega) (by omega)) (Qaa (QbU Qg2 QdV rfl (Qdk (by omega) (by omega)) (Qaa (Qiu rfl rfl (Qaa (QbU QdV Qg2 rfl (QbH (by omega) (by omega)) (Qaa (Qad (V:=I6 (((i+j)/2:Nat):Int)) rfl (Qaf (Qag (QaI HM [some 92,some 93,some 94,some 95,some 96,some 97,some 98,some 99,some 100,some 101,some 102,some 103] [] [0,0,0,6,14,0,0,96,224,511,1023,2047] [pv (.func (.func g) #[] #[]),pv (.slice a N c),pv (I6 (mid:Int)),pv (.pointer (some ⟨bkS (.slice a N c),ofS (.slice a N c)+(mid:Int).toNat*7,none⟩)),pv (.agg (cec (gd l mid)).toArray),pv (.slice a N c),pv (I6 (((i+j)/2:Nat):Int)),pv (.pointer (some ⟨bkS (.slice a N c),ofS (.slice a N c)+(((i+j)/2:Nat):Int).toNat*7,none⟩)),pv (.agg (cec (gd l ((i+j)/2))).toArray),pv (I6 (cf (gd l mid) (gd l ((i+j)/2)))),pv (.bool (decide (cf (gd l mid) (gd l ((i+j)/2))<0))),pv (.bool (!decide (cf (gd l mid) (gd l ((i+j)/2))<0)))] (fun _ _=>_) [11] (by kernel_rfl) hs ⟨?_,?_,?_,?_,?_,?_,?_,?_,?_,?_,?_,?_,trivial⟩ ?_))))))))))))))))))))
   ·exact oa [] fun D J w hs=>Qac (V:=.func (.func g) #[] #[]) rfl (Zz hs)
   ·exact oa [] fun D J w hs=>Qac (V:=.slice a N c) rfl (Zz hs)
   ·exact oa [] fun D J w hs=>Qac (V:=.int .i64 (mid:Int)) rfl (Zz hs)
   ·exact oa [1,2] fun D J w hs=>Qaw QbM QaH.1 (hs.rd 0 rfl) rfl rfl (by omega) (by rw [QQ6];omega) (Zz hs)
   ·exact oa [3] fun D J w hs=>Qa1 (j:=0) (vs:=cec (gd l mid)) mid QaH (hs.rd 0 rfl) (QaT (by omega)) rfl rfl rfl (by omega) (Zz hs)
   ·exact oa [] fun D J w hs=>Qac (V:=.slice a N c) rfl (Zz hs)
   ·exact oa [] fun D J w hs=>Qac (V:=.int .i64 (((i+j)/2:Nat):Int)) rfl (Zz hs)
   ·exact oa [5,6] fun D J w hs=>Qaw QbM QaH.1 (hs.rd 0 rfl) rfl rfl (by omega) (by rw [QQ6];omega) (Zz hs)
   ·exact oa [7] fun D J w hs=>Qa1 (j:=0) (vs:=cec (gd l ((i+j)/2))) ((i+j)/2) QaH (hs.rd 0 rfl) (QaT (by omega)) rfl rfl rfl (by omega) (Zz hs)
   ·exact oa [0,4,8] fun D J w hs=>Qgw (vs:=[.agg (cec (gd l mid)).toArray,.agg (cec (gd l ((i+j)/2))).toArray]) (cs:=[]) (V:=.int .i64 (cf (gd l mid) (gd l ((i+j)/2)))) hg rfl rfl (hcmp _ (gd l mid) (gd l ((i+j)/2))) hs fun _ hs=>Zz hs
   ·exact oa [9] fun D J w hs=>QaQ rfl rfl (Zz hs)
   ·exact oa [10] fun D J w hs=>Qbz rfl (Zz hs)
   rintro J1 w16 J2 hJ hs
   replace hJ:J2=upd (mix (sq 92 12) J1 _) 103 (.bool (!decide (cf (gd l mid) (gd l ((i+j)/2))<0))):=hJ
   subst hJ
   refine Qan (t:=!decide (cf (gd l mid) (gd l ((i+j)/2))<0)) rfl (fun c17=>?_) (fun c17=>?_)
   ·
    replace c17:=Qbn c17
    replace c17:=QQ2 c17
    refine Qab (Qaa (Qac (V:=I6 (((i+j)/2:Nat):Int)) rfl (Qaa (QaD (a:=(((i+j)/2:Nat):Int)) (b:=1) (c:=((((i+j)/2)+1:Nat):Int)) rfl rfl (Qak (by omega) (by omega)) (Qaa (Qad (V:=I6 ((((i+j)/2)+1:Nat):Int)) rfl (Qaf ?_)))))))
    refine ⟨_,?_,_,((i+j)/2)+1,j,Qai (Qai (Qao (ds:=([14,15,16]++sq 83 24)) (by repeat (first|exact Agr.refl _ _|refine Agr.upd ?_ rfl|refine Agr.mix ?_ rfl))) rfl) rfl,(by omega),(by omega),(by omega),(Or.inr (by rw [Nat.add_sub_cancel];exact c17)),hj2,rfl,hs.take 1⟩
    omega
   replace c17:=Qbf c17
   replace c17:=QQ1 c17
   refine Qab (Qaa (Qac (V:=I6 (((i+j)/2:Nat):Int)) rfl (Qaa (Qad (V:=I6 (((i+j)/2:Nat):Int)) rfl (Qaf ?_)))))
   refine ⟨_,?_,_,i,(i+j)/2,Qai (Qai (Qao (ds:=([14,15,16]++sq 83 24)) (by repeat (first|exact Agr.refl _ _|refine Agr.upd ?_ rfl|refine Agr.mix ?_ rfl))) rfl) rfl,(by omega),(by omega),(by omega),hi2,(Or.inr c17),rfl,hs.take 1⟩
   omega
  replace c14:=QQ2 c14
  refine QaF (Qag (Qag (Qab (Qaa (Qac (V:=I6 (mid:Int)) rfl (Qaa (Qad (V:=I6 (mid:Int)) rfl (Qaf (Qam ?_)))))))))
  have hie:i=j:=by omega
  refine QaA (fun J μ J' w'=>∃ (Jo:Env) (k:Nat) (m:List Cen),J'=upd (mix ([17]++sq 108 21) Jo J) 17 (I6 (k:Int))/\(i<=k)/\(k<=mid)/\(m.length=N)/\(Qb7 l m k mid (mid+1))/\μ=k+1/\Own w S w' [row (.slice a N c) (m.map cec) 106 7]) ?_ ?_
  ·exact ⟨_,_,mid,l,Qai (Qao (ds:=([17]++sq 108 21)) (Agr.refl _ _)) rfl,(by omega),(Nat.le_refl _),hz,(Qb7.refl (by omega) (by omega) (by omega) (Or.inl rfl)),rfl,hs⟩
  rintro μ J' w18 ⟨Jo,k,m,rfl,hk1,hk2,hz1,hro,rfl,hs⟩
  refine Qag (Qag (Qab (Qaa (Qac (V:=I6 (k:Int)) rfl (Qaa (Qac (V:=I6 (i:Int)) rfl (Qaa (QbY rfl rfl (Qaf (Qan (t:=decide ((i:Int)<(k:Int))) rfl (fun c19=>?_) (fun c19=>?_)))))))))))
  ·
   replace c19:=QQ1 c19
   refine Qap (Qag (Qam (QaI HM [some 113,some 114,some 115,some 116,some 117,some 118,some 119,some 120,some 121,some 122,some 123,some 124,some 125,some 126,some 127,none,some 128,none] [] [0,0,0,0,8,0,0,64,224,480,0,0,3072,7168,16355,32739,65535,131071] [pv (.slice a N c),pv (I6 (k:Int)),pv (.slice a N c),pv (I6 (k:Int)),pv (I6 ((k-1:Nat):Int)),pv (.slice a N c),pv (I6 (k:Int)),pv (I6 ((k-1:Nat):Int)),pv (.pointer (some ⟨bkS (.slice a N c),ofS (.slice a N c)+((k-1:Nat):Int).toNat*7,none⟩)),pv (.agg (cec (gd m (k-1))).toArray),pv (.slice a N c),pv (I6 (k:Int)),pv (.pointer (some ⟨bkS (.slice a N c),ofS (.slice a N c)+(k:Int).toNat*7,none⟩)),pv (.agg (cec (gd m k)).toArray),pv (.pointer (some ⟨bkS (.slice a N c),ofS (.slice a N c)+(k:Int).toNat*7,none⟩)),pn,pv (.pointer (some ⟨bkS (.slice a N c),ofS (.slice a N c)+((k-1:Nat):Int).toNat*7,none⟩)),pn] (fun D J=>[cond (D 17) (row (.slice a N c) (((m.set k (gd m (k-1))).set (k-1) (gd m k)).map cec) 106 7) (cond (D 15) (row (.slice a N c) ((m.set k (gd m (k-1))).map cec) 106 7) (row (.slice a N c) (m.map cec) 106 7))]) [] (by kernel_rfl) hs ⟨?_,?_,?_,?_,?_,?_,?_,?_,?_,?_,?_,?_,?_,?_,?_,?_,?_,?_,trivial⟩ ?_)))
   ·exact oa [] fun D J w hs=>Qac (V:=.slice a N c) rfl (Zz hs)
   ·exact oa [] fun D J w hs=>Qac (V:=.int .i64 (k:Int)) rfl (Zz hs)
   ·exact oa [] fun D J w hs=>Qac (V:=.slice a N c) rfl (Zz hs)
   ·exact oa [] fun D J w hs=>Qac (V:=.int .i64 (k:Int)) rfl (Zz hs)
   ·exact oa [3] fun D J w hs=>Qa7 (a:=(k:Int)) (b:=1) (c:=((k-1:Nat):Int)) rfl rfl (Qak (by omega) (by omega)) (Zz hs)
   ·exact oa [] fun D J w hs=>Qac (V:=.slice a N c) rfl (Zz hs)
   ·exact oa [] fun D J w hs=>Qac (V:=.int .i64 (k:Int)) rfl (Zz hs)
   ·exact oa [6] fun D J w hs=>Qa7 (a:=(k:Int)) (b:=1) (c:=((k-1:Nat):Int)) rfl rfl (Qak (by omega) (by omega)) (Zz hs)
   ·exact ob [5,7] [15,17] rfl rfl fun D J w hs=>Qaw QbM QaH.1 (hs.rd 0 rfl) rfl rfl (by omega) (by rw [QQ6];omega) (Zz hs)
   ·exact ob [8] [15,17] rfl rfl fun D J w hs=>Qa1 (j:=0) (vs:=cec (gd m (k-1))) (k-1) QaH (hs.rd 0 rfl) (QaT (by omega)) rfl rfl rfl (by omega) (Zz hs)
   ·exact oa [] fun D J w hs=>Qac (V:=.slice a N c) rfl (Zz hs)
   ·exact oa [] fun D J w hs=>Qac (V:=.int .i64 (k:Int)) rfl (Zz hs)
   ·exact ob [10,11] [15,17] rfl rfl fun D J w hs=>Qaw QbM QaH.1 (hs.rd 0 rfl) rfl rfl (by omega) (by rw [QQ6];omega) (Zz hs)
   ·exact ob [12] [15,17] rfl rfl fun D J w hs=>Qa1 (j:=0) (vs:=cec (gd m k)) k QaH (hs.rd 0 rfl) (QaT (by omega)) rfl rfl rfl (by omega) (Zz hs)
   ·exact ob [0,1] [15,17] rfl rfl fun D J w hs=>Qaw QbM QaH.1 (hs.rd 0 rfl) rfl rfl (by omega) (by rw [QQ6];omega) (Zz hs)
   ·exact ob [9,14] [17] rfl rfl fun D J w hs=>QhB (z:=gd m (k-1)) k QaH.1 hs 0 rfl rfl rfl (by first|omega|(simp only [List.length_set];omega)) rfl rfl rfl (Qa8 _) fun _ hs=>⟨trivial,hs⟩
   ·exact ob [2,4,15] [17] rfl rfl fun D J w hs=>Qaw QbM QaH.1 (hs.rd 0 rfl) rfl rfl (by omega) (by simp only [QQ6,List.length_set];omega) (Zz hs)
   ·exact oa [13,15,16] fun D J w hs=>QhB (z:=gd m k) (k-1) QaH.1 hs 0 rfl rfl rfl (by first|omega|(simp only [List.length_set];omega)) rfl rfl rfl (Qa8 _) fun _ hs=>⟨trivial,hs⟩
   rintro J1 w22 J2 hJ hs
   replace hJ:J2=mix (sq 113 16) J1 _:=hJ
   replace hs:Own w S w22 [row (.slice a N c) (((m.set k (gd m (k-1))).set (k-1) (gd m k)).map cec) 106 7]:=hs
   subst hJ
   replace hs:Own w S _ [row (.slice a N c) ((swL m k (k-1)).map cec) 106 7]:=hs.take 1
   refine Qab (Qaa (Qac (V:=I6 (k:Int)) rfl (Qaa (Qa7 (a:=(k:Int)) (b:=1) (c:=((k-1:Nat):Int)) rfl rfl (Qak (by omega) (by omega)) (Qaa (Qad (V:=I6 ((k-1:Nat):Int)) rfl (Qaf ?_)))))))
   refine ⟨_,?_,_,k-1,swL m k (k-1),Qai (Qao (ds:=([17]++sq 108 21)) (by repeat (first|exact Agr.refl _ _|refine Agr.upd ?_ rfl|refine Agr.mix ?_ rfl))) rfl,(by omega),(by omega),(by rw [QhR];exact hz1),(QoJ hro (by omega)),rfl,hs.take 1⟩
   omega
  replace c19:=QQ2 c19
  refine QaF (Qau ?_)
  refine ⟨_,Qbr Tryz.results157,?_⟩
  have hke:k=i:=by omega
  rw [hke] at hro
  have hm:=Qpm hc ho1 hi1 (by omega) (by omega) hro hi2 (by rw [hie];exact hj2)
  rw [show mid+1=hi by omega] at hm
  exact ⟨m,rfl,hs.take 1,hz1,hm⟩
 replace c12:=QQ2 c12
 refine Qap (Qag (Qab (Qaa (Qac (V:=I6 (lo:Int)) rfl (Qaa (Qac (V:=I6 (hi:Int)) rfl (Qaa (QaD (a:=(lo:Int)) (b:=(hi:Int)) (c:=((lo+hi:Nat):Int)) rfl rfl (Qak (by omega) (by omega)) (Qaa (QbU Qg2 QdV rfl (Qdk (by omega) (by omega)) (Qaa (Qiu rfl rfl (Qaa (QbU QdV Qg2 rfl (QbH (by omega) (by omega)) (Qaa (Qad (V:=I6 (((lo+hi)/2:Nat):Int)) rfl (Qaf (Qag (Qab (Qaa (Qac (V:=I6 (((lo+hi)/2:Nat):Int)) rfl (Qaa (Qac (V:=I6 (mid:Int)) rfl (Qaa (QaD (a:=(((lo+hi)/2:Nat):Int)) (b:=(mid:Int)) (c:=((((lo+hi)/2)+mid:Nat):Int)) rfl rfl (Qak (by omega) (by omega)) (Qaa (Qad (V:=I6 ((((lo+hi)/2)+mid:Nat):Int)) rfl (Qaf (Qag (Qab (Qaa (Qad (V:=I6 0) rfl (Qaa (Qad (V:=I6 0) rfl (Qaf (Qag (Qag (Qab (Qaa (Qac (V:=I6 (mid:Int)) rfl (Qaa (Qac (V:=I6 (((lo+hi)/2:Nat):Int)) rfl (Qaa (QbY rfl rfl (Qaf (Qgl (fun J J' w'=>∃ (Jo:Env) (s0:Nat) (r0:Nat),J'=upd (upd (mix ([20,21]++sq 141 6) Jo J) 20 (I6 (s0:Int))) 21 (I6 (r0:Int))/\(lo<=s0)/\(s0<=r0)/\(r0<=mid)/\(r0<=(lo+hi)/2)/\((lo+hi)/2+mid<=hi+s0)/\(s0=lo∨(lo+hi)/2+mid=hi+s0)/\(r0=mid∨r0=(lo+hi)/2)/\Own w S w' [row (.slice a N c) (l.map cec) 106 7]) ?_ ?_))))))))))))))))))))))))))))))))))))))))))))))
 ·
  refine Qan (t:=decide ((((lo+hi)/2:Nat):Int)<(mid:Int))) rfl (fun c23=>?_) (fun c23=>?_)
  ·
   replace c23:=QQ1 c23
   refine Qag (Qab (Qaa (Qac (V:=I6 ((((lo+hi)/2)+mid:Nat):Int)) rfl (Qaa (Qac (V:=I6 (hi:Int)) rfl (Qaa (Qa7 (a:=((((lo+hi)/2)+mid:Nat):Int)) (b:=(hi:Int)) (c:=(((((lo+hi)/2)+mid)-hi:Nat):Int)) rfl rfl (Qak (by omega) (by omega)) (Qaa (Qad (V:=I6 (((((lo+hi)/2)+mid)-hi:Nat):Int)) rfl (Qaf (Qab (Qaa (Qac (V:=I6 (((lo+hi)/2:Nat):Int)) rfl (Qaa (Qad (V:=I6 (((lo+hi)/2:Nat):Int)) rfl (Qaf ?_))))))))))))))))
   exact ⟨_,(((lo+hi)/2)+mid)-hi,(lo+hi)/2,Qai (Qai (Qao (ds:=([20,21]++sq 141 6)) (by repeat (first|exact Agr.refl _ _|refine Agr.upd ?_ rfl|refine Agr.mix ?_ rfl))) rfl) rfl,(by omega),(by omega),(by omega),(by omega),(by omega),(by omega),(by omega),hs.take 1⟩
  replace c23:=QQ2 c23
  refine Qag (Qab (Qaa (Qac (V:=I6 (lo:Int)) rfl (Qaa (Qad (V:=I6 (lo:Int)) rfl (Qaf (Qab (Qaa (Qac (V:=I6 (mid:Int)) rfl (Qaa (Qad (V:=I6 (mid:Int)) rfl (Qaf ?_))))))))))))
  exact ⟨_,lo,mid,Qai (Qai (Qao (ds:=([20,21]++sq 141 6)) (by repeat (first|exact Agr.refl _ _|refine Agr.upd ?_ rfl|refine Agr.mix ?_ rfl))) rfl) rfl,(by omega),(by omega),(by omega),(by omega),(by omega),(by omega),(by omega),hs.take 1⟩
 rintro J' w24 ⟨Jo,s0,r0,rfl,q1,q2,q3,q4,q5,q6,q7,hs⟩
 refine Qag (Qab (Qaa (Qac (V:=I6 ((((lo+hi)/2)+mid:Nat):Int)) rfl (Qaa (Qa7 (a:=((((lo+hi)/2)+mid:Nat):Int)) (b:=1) (c:=(((((lo+hi)/2)+mid)-1:Nat):Int)) rfl rfl (Qak (by omega) (by omega)) (Qaa (Qad (V:=I6 (((((lo+hi)/2)+mid)-1:Nat):Int)) rfl (Qaf (Qag (Qam (QaA (fun J μ J' w'=>∃ (Jo:Env) (s:Nat) (r:Nat),J'=upd (upd (mix ([20,21,23]++sq 149 26) Jo J) 20 (I6 (s:Int))) 21 (I6 (r:Int))/\(s0<=s)/\(s<=r)/\(r<=r0)/\(s=s0∨¬cf (gd l ((lo+hi)/2+mid-1-(s-1))) (gd l (s-1))<0)/\(r=r0∨cf (gd l ((lo+hi)/2+mid-1-r)) (gd l r)<0)/\μ=r-s/\Own w S w' [row (.slice a N c) (l.map cec) 106 7]) ?_ ?_)))))))))))
 ·exact ⟨_,_,s0,r0,Qai (Qai (Qao (ds:=([20,21,23]++sq 149 26)) (Agr.refl _ _)) rfl) rfl,(Nat.le_refl _),(by omega),(Nat.le_refl _),(Or.inl rfl),(Or.inl rfl),rfl,hs⟩
 rintro μ J' w25 ⟨Jo,s,r,rfl,hs1,hsr,hr1,hs2,hr2,rfl,hs⟩
 refine Qag (Qag (Qab (Qaa (Qac (V:=I6 (s:Int)) rfl (Qaa (Qac (V:=I6 (r:Int)) rfl (Qaa (QaQ rfl rfl (Qaf (Qan (t:=decide ((s:Int)<(r:Int))) rfl (fun c26=>?_) (fun c26=>?_)))))))))))
 ·
  replace c26:=QQ1 c26
  refine Qap (Qam (Qag (Qab (Qaa (Qac (V:=I6 (s:Int)) rfl (Qaa (Qac (V:=I6 (r:Int)) rfl (Qaa (QaD (a:=(s:Int)) (b:=(r:Int)) (c:=((s+r:Nat):Int)) rfl rfl (Qak (by omega) (by omega)) (Qaa (QbU Qg2 QdV rfl (Qdk (by omega) (by omega)) (Qaa (Qiu rfl rfl (Qaa (QbU QdV Qg2 rfl (QbH (by omega) (by omega)) (Qaa (Qad (V:=I6 (((s+r)/2:Nat):Int)) rfl (Qaf (Qag (QaI HM [some 158,some 159,some 160,some 161,some 162,some 163,some 164,some 165,some 166,some 167,some 168,some 169,some 170,some 171] [] [0,0,0,0,12,30,62,0,0,384,896,2047,4095,8191] [pv (.func (.func g) #[] #[]),pv (.slice a N c),pv (I6 (((((lo+hi)/2)+mid)-1:Nat):Int)),pv (I6 (((s+r)/2:Nat):Int)),pv (I6 ((((((lo+hi)/2)+mid)-1)-((s+r)/2):Nat):Int)),pv (.pointer (some ⟨bkS (.slice a N c),ofS (.slice a N c)+((((((lo+hi)/2)+mid)-1)-((s+r)/2):Nat):Int).toNat*7,none⟩)),pv (.agg (cec (gd l (((((lo+hi)/2)+mid)-1)-((s+r)/2)))).toArray),pv (.slice a N c),pv (I6 (((s+r)/2:Nat):Int)),pv (.pointer (some ⟨bkS (.slice a N c),ofS (.slice a N c)+(((s+r)/2:Nat):Int).toNat*7,none⟩)),pv (.agg (cec (gd l ((s+r)/2))).toArray),pv (I6 (cf (gd l (((((lo+hi)/2)+mid)-1)-((s+r)/2))) (gd l ((s+r)/2)))),pv (.bool (decide (cf (gd l (((((lo+hi)/2)+mid)-1)-((s+r)/2))) (gd l ((s+r)/2))<0))),pv (.bool (!decide (cf (gd l (((((lo+hi)/2)+mid)-1)-((s+r)/2))) (gd l ((s+r)/2))<0)))] (fun _ _=>_) [13] (by kernel_rfl) hs ⟨?_,?_,?_,?_,?_,?_,?_,?_,?_,?_,?_,?_,?_,?_,trivial⟩ ?_))))))))))))))))))))
  ·exact oa [] fun D J w hs=>Qac (V:=.func (.func g) #[] #[]) rfl (Zz hs)
  ·exact oa [] fun D J w hs=>Qac (V:=.slice a N c) rfl (Zz hs)
  ·exact oa [] fun D J w hs=>Qac (V:=.int .i64 (((((lo+hi)/2)+mid)-1:Nat):Int)) rfl (Zz hs)
  ·exact oa [] fun D J w hs=>Qac (V:=.int .i64 (((s+r)/2:Nat):Int)) rfl (Zz hs)
  ·exact oa [2,3] fun D J w hs=>Qa7 (a:=(((((lo+hi)/2)+mid)-1:Nat):Int)) (b:=(((s+r)/2:Nat):Int)) (c:=((((((lo+hi)/2)+mid)-1)-((s+r)/2):Nat):Int)) rfl rfl (Qak (by omega) (by omega)) (Zz hs)
  ·exact oa [1,4] fun D J w hs=>Qaw QbM QaH.1 (hs.rd 0 rfl) rfl rfl (by omega) (by rw [QQ6];omega) (Zz hs)
  ·exact oa [5] fun D J w hs=>Qa1 (j:=0) (vs:=cec (gd l (((((lo+hi)/2)+mid)-1)-((s+r)/2)))) (((((lo+hi)/2)+mid)-1)-((s+r)/2)) QaH (hs.rd 0 rfl) (QaT (by omega)) rfl rfl rfl (by omega) (Zz hs)
  ·exact oa [] fun D J w hs=>Qac (V:=.slice a N c) rfl (Zz hs)
  ·exact oa [] fun D J w hs=>Qac (V:=.int .i64 (((s+r)/2:Nat):Int)) rfl (Zz hs)
  ·exact oa [7,8] fun D J w hs=>Qaw QbM QaH.1 (hs.rd 0 rfl) rfl rfl (by omega) (by rw [QQ6];omega) (Zz hs)
  ·exact oa [9] fun D J w hs=>Qa1 (j:=0) (vs:=cec (gd l ((s+r)/2))) ((s+r)/2) QaH (hs.rd 0 rfl) (QaT (by omega)) rfl rfl rfl (by omega) (Zz hs)
  ·exact oa [0,6,10] fun D J w hs=>Qgw (vs:=[.agg (cec (gd l (((((lo+hi)/2)+mid)-1)-((s+r)/2)))).toArray,.agg (cec (gd l ((s+r)/2))).toArray]) (cs:=[]) (V:=.int .i64 (cf (gd l (((((lo+hi)/2)+mid)-1)-((s+r)/2))) (gd l ((s+r)/2)))) hg rfl rfl (hcmp _ (gd l (((((lo+hi)/2)+mid)-1)-((s+r)/2))) (gd l ((s+r)/2))) hs fun _ hs=>Zz hs
  ·exact oa [11] fun D J w hs=>QaQ rfl rfl (Zz hs)
  ·exact oa [12] fun D J w hs=>Qbz rfl (Zz hs)
  rintro J1 w28 J2 hJ hs
  replace hJ:J2=upd (mix (sq 158 14) J1 _) 171 (.bool (!decide (cf (gd l (((((lo+hi)/2)+mid)-1)-((s+r)/2))) (gd l ((s+r)/2))<0))):=hJ
  subst hJ
  refine Qan (t:=!decide (cf (gd l (((((lo+hi)/2)+mid)-1)-((s+r)/2))) (gd l ((s+r)/2))<0)) rfl (fun c29=>?_) (fun c29=>?_)
  ·
   replace c29:=Qbn c29
   replace c29:=QQ2 c29
   refine Qab (Qaa (Qac (V:=I6 (((s+r)/2:Nat):Int)) rfl (Qaa (QaD (a:=(((s+r)/2:Nat):Int)) (b:=1) (c:=((((s+r)/2)+1:Nat):Int)) rfl rfl (Qak (by omega) (by omega)) (Qaa (Qad (V:=I6 ((((s+r)/2)+1:Nat):Int)) rfl (Qaf ?_)))))))
   refine ⟨_,?_,_,((s+r)/2)+1,r,Qai (Qai (Qao (ds:=([20,21,23]++sq 149 26)) (by repeat (first|exact Agr.refl _ _|refine Agr.upd ?_ rfl|refine Agr.mix ?_ rfl))) rfl) rfl,(by omega),(by omega),(by omega),(Or.inr (by rw [Nat.add_sub_cancel];exact c29)),hr2,rfl,hs.take 1⟩
   omega
  replace c29:=Qbf c29
  replace c29:=QQ1 c29
  refine Qab (Qaa (Qac (V:=I6 (((s+r)/2:Nat):Int)) rfl (Qaa (Qad (V:=I6 (((s+r)/2:Nat):Int)) rfl (Qaf ?_)))))
  refine ⟨_,?_,_,s,(s+r)/2,Qai (Qai (Qao (ds:=([20,21,23]++sq 149 26)) (by repeat (first|exact Agr.refl _ _|refine Agr.upd ?_ rfl|refine Agr.mix ?_ rfl))) rfl) rfl,(by omega),(by omega),(by omega),hs2,(Or.inr c29),rfl,hs.take 1⟩
  omega
 replace c26:=QQ2 c26
 refine QaF (Qag (Qab (Qaa (Qac (V:=I6 ((((lo+hi)/2)+mid:Nat):Int)) rfl (Qaa (Qac (V:=I6 (s:Int)) rfl (Qaa (Qa7 (a:=((((lo+hi)/2)+mid:Nat):Int)) (b:=(s:Int)) (c:=(((((lo+hi)/2)+mid)-s:Nat):Int)) rfl rfl (Qak (by omega) (by omega)) (Qaa (Qad (V:=I6 (((((lo+hi)/2)+mid)-s:Nat):Int)) rfl (Qaf (Qag (Qag (Qbj [some 178,some 179,some 180,some 181,some 182,some 183,some 184,some 185] [] [0,0,3,7,15,15,63,127] [pv (I6 (s:Int)),pv (I6 (mid:Int)),pv (.bool (decide ((s:Int)<(mid:Int)))),pv (.bool (decide ((s:Int)<(mid:Int)))),pg ((decide ((s:Int)<(mid:Int))) == true) (I6 (mid:Int)),pg ((decide ((s:Int)<(mid:Int))) == true) (I6 (((((lo+hi)/2)+mid)-s:Nat):Int)),pg ((decide ((s:Int)<(mid:Int))) == true) (.bool (decide ((mid:Int)<(((((lo+hi)/2)+mid)-s:Nat):Int)))),pv (.bool ((decide ((s:Int)<(mid:Int)))&&(decide ((mid:Int)<(((((lo+hi)/2)+mid)-s:Nat):Int)))))] (fun _ _=>_) [7] (by kernel_rfl) hs ⟨?_,?_,?_,?_,?_,?_,?_,?_,trivial⟩ ?_))))))))))))))
 ·exact oa [] fun D J w hs=>Qac (V:=.int .i64 (s:Int)) rfl (Zz hs)
 ·exact oa [] fun D J w hs=>Qac (V:=.int .i64 (mid:Int)) rfl (Zz hs)
 ·exact oa [0,1] fun D J w hs=>QaQ rfl rfl (Zz hs)
 ·exact oa [2] fun D J w hs=>Qac (V:=.bool (decide ((s:Int)<(mid:Int)))) rfl (Zz hs)
 ·exact og [3] fun D J w hG hs=>Qac (V:=.int .i64 (mid:Int)) rfl (Zz hs)
 ·exact og [3] fun D J w hG hs=>Qac (V:=.int .i64 (((((lo+hi)/2)+mid)-s:Nat):Int)) rfl (Zz hs)
 ·exact oy [3,4,5] [4,5] fun D J w hG hs=>QaQ rfl rfl (Zz hs)
 ·exact oa [3,6] fun D J w hs=>Qa4 (h':=decide ((mid:Int)<(((((lo+hi)/2)+mid)-s:Nat):Int))) rfl rfl rfl (Zz hs)
 rintro J1 w30 J2 hJ hs
 replace hJ:J2=upd (mix (sq 178 8) J1 _) 185 (.bool ((decide ((s:Int)<(mid:Int)))&&(decide ((mid:Int)<(((((lo+hi)/2)+mid)-s:Nat):Int))))):=hJ
 subst hJ
 have hse:s=r:=by omega
 rw [← hse] at hr2
 have hg1:=Qus (lo:=lo) (hi:=hi) (e:=(lo+hi)/2+mid-s) hs2 q6 hs1 rfl
 have hg2:=QsB (md:=(lo+hi)/2) (e:=(lo+hi)/2+mid-s) hr2 q7 rfl rfl (by omega)
 refine Qgl (fun J J' w'=>∃ (Jo:Env) (m1:List Cen),J'=mix (sq 186 6) Jo J/\(m1.length=N)/\(Qb7 l m1 s mid ((lo+hi)/2+mid-s))/\Own w S w' [row (.slice a N c) (m1.map cec) 106 7]) ?_ ?_
 ·
  refine Qan (t:=(decide ((s:Int)<(mid:Int)))&&(decide ((mid:Int)<(((((lo+hi)/2)+mid)-s:Nat):Int)))) rfl (fun c31=>?_) (fun c31=>?_)
  ·
   have c31r:=QbF c31
   replace c31:=QbD c31
   replace c31:=QQ1 c31
   replace c31r:=QQ1 c31r
   refine Qab (Qaa (Qac (V:=.slice a N c) rfl (Qaa (Qac (V:=I6 (s:Int)) rfl (Qaa (Qac (V:=I6 (mid:Int)) rfl (Qaa (Qac (V:=I6 (((((lo+hi)/2)+mid)-s:Nat):Int)) rfl (Qaa (Qac (V:=.func (.func g) #[] #[]) rfl (Qaa (Qbv (α:=List Cen) (vs:=[.slice a N c,I6 (s:Int),I6 (mid:Int),I6 (((((lo+hi)/2)+mid)-s:Nat):Int),.func (.func g) #[] #[]]) (V:=fun _=>.tuple #[]) (R:=row (.slice a N c) (l.map cec) 106 7) (R':=fun x=>row (.slice a N c) (x.map cec) 106 7) (Lo:=fun _=>[]) (F:=fun x _=>x.length=N/\Qb7 l x s mid ((((lo+hi)/2)+mid)-s)) Qtf rfl rfl hs 0 rfl (fun S hS hlt=>Qub _ S a N c l hz hN s mid ((((lo+hi)/2)+mid)-s) (by omega) (by omega) (by omega) g hg cf hc hcmp hS hlt) fun mz32 w33 hs hF34=>(Qaf ?_)))))))))))))
   exact ⟨_,mz32,Qao (ds:=(sq 186 6)) (by repeat (first|exact Agr.refl _ _|refine Agr.upd ?_ rfl|refine Agr.mix ?_ rfl)),hF34.1,hF34.2,hs.take 1⟩
  refine Qap ?_
  exact ⟨_,l,Qao (ds:=(sq 186 6)) (by repeat (first|exact Agr.refl _ _|refine Agr.upd ?_ rfl|refine Agr.mix ?_ rfl)),hz,(Qb7.refl (by omega) (by omega) (by omega) (by
 have ht:=c31
 rcases Nat.lt_or_ge s mid with q|q
 ·right;simp [q] at ht;omega
 ·left;omega)),hs.take 1⟩
 rintro J' w35 ⟨Jo,m1,rfl,hz1,hro,hs⟩
 have hmd:s+((lo+hi)/2+mid-s-mid)=(lo+hi)/2:=by omega
 have hh:=Qfz hc ho1 ho2 (by omega) (by omega) (by omega) (by omega) hro hg1 hg2
 rw [hmd] at hh
 obtain ⟨k1,k2,k3,k4,k5⟩:=hh
 refine Qag (Qag (Qbj [some 192,some 193,some 194,some 195,some 196,some 197,some 198,some 199] [] [0,0,3,7,15,15,63,127] [pv (I6 (lo:Int)),pv (I6 (s:Int)),pv (.bool (decide ((lo:Int)<(s:Int)))),pv (.bool (decide ((lo:Int)<(s:Int)))),pg ((decide ((lo:Int)<(s:Int))) == true) (I6 (s:Int)),pg ((decide ((lo:Int)<(s:Int))) == true) (I6 (((lo+hi)/2:Nat):Int)),pg ((decide ((lo:Int)<(s:Int))) == true) (.bool (decide ((s:Int)<(((lo+hi)/2:Nat):Int)))),pv (.bool ((decide ((lo:Int)<(s:Int)))&&(decide ((s:Int)<(((lo+hi)/2:Nat):Int)))))] (fun _ _=>_) [7] (by kernel_rfl) hs ⟨?_,?_,?_,?_,?_,?_,?_,?_,trivial⟩ ?_))
 ·exact oa [] fun D J w hs=>Qac (V:=.int .i64 (lo:Int)) rfl (Zz hs)
 ·exact oa [] fun D J w hs=>Qac (V:=.int .i64 (s:Int)) rfl (Zz hs)
 ·exact oa [0,1] fun D J w hs=>QaQ rfl rfl (Zz hs)
 ·exact oa [2] fun D J w hs=>Qac (V:=.bool (decide ((lo:Int)<(s:Int)))) rfl (Zz hs)
 ·exact og [3] fun D J w hG hs=>Qac (V:=.int .i64 (s:Int)) rfl (Zz hs)
 ·exact og [3] fun D J w hG hs=>Qac (V:=.int .i64 (((lo+hi)/2:Nat):Int)) rfl (Zz hs)
 ·exact oy [3,4,5] [4,5] fun D J w hG hs=>QaQ rfl rfl (Zz hs)
 ·exact oa [3,6] fun D J w hs=>Qa4 (h':=decide ((s:Int)<(((lo+hi)/2:Nat):Int))) rfl rfl rfl (Zz hs)
 rintro J1 w36 J2 hJ hs
 replace hJ:J2=upd (mix (sq 192 8) J1 _) 199 (.bool ((decide ((lo:Int)<(s:Int)))&&(decide ((s:Int)<(((lo+hi)/2:Nat):Int))))):=hJ
 subst hJ
 refine Qgl (fun J J' w'=>∃ (Jo:Env) (m2:List Cen),J'=mix (sq 200 6) Jo J/\(m2.length=N)/\(Merged cf m1 m2 lo ((lo+hi)/2))/\Own w S w' [row (.slice a N c) (m2.map cec) 106 7]) ?_ ?_
 ·
  refine Qan (t:=(decide ((lo:Int)<(s:Int)))&&(decide ((s:Int)<(((lo+hi)/2:Nat):Int)))) rfl (fun c37=>?_) (fun c37=>?_)
  ·
   have c37r:=QbF c37
   replace c37:=QbD c37
   replace c37:=QQ1 c37
   replace c37r:=QQ1 c37r
   refine Qab (Qaa (Qac (V:=.slice a N c) rfl (Qaa (Qac (V:=I6 (lo:Int)) rfl (Qaa (Qac (V:=I6 (s:Int)) rfl (Qaa (Qac (V:=I6 (((lo+hi)/2:Nat):Int)) rfl (Qaa (Qac (V:=.func (.func g) #[] #[]) rfl (Qaa (Qbv (α:=List Cen) (vs:=[.slice a N c,I6 (lo:Int),I6 (s:Int),I6 (((lo+hi)/2:Nat):Int),.func (.func g) #[] #[]]) (V:=fun _=>.tuple #[]) (R:=row (.slice a N c) (m1.map cec) 106 7) (R':=fun x=>row (.slice a N c) (x.map cec) 106 7) (Lo:=fun _=>[]) (F:=fun x _=>x.length=N/\Merged cf m1 x lo ((lo+hi)/2)) Qku rfl rfl hs 0 rfl (fun S hS hlt=>ih _ S a N c m1 lo s ((lo+hi)/2) hz1 hN (by omega) (by omega) (by omega) (by omega) k1 k2 hS hlt) fun mz38 w39 hs hF40=>(Qaf ?_)))))))))))))
   exact ⟨_,mz38,Qao (ds:=(sq 200 6)) (by repeat (first|exact Agr.refl _ _|refine Agr.upd ?_ rfl|refine Agr.mix ?_ rfl)),hF40.1,hF40.2,hs.take 1⟩
  refine Qap ?_
  exact ⟨_,m1,Qao (ds:=(sq 200 6)) (by repeat (first|exact Agr.refl _ _|refine Agr.upd ?_ rfl|refine Agr.mix ?_ rfl)),hz1,(⟨Qbd.refl m1 (by omega) (by omega),by
 have ht:=c37
 rcases Nat.lt_or_ge lo s with q|q
 ·have q2:(lo+hi)/2<=s:=by simp [q] at ht;omega
  exact k1.sub (Nat.le_refl _) q2
 ·exact k2.sub q (Nat.le_refl _)⟩),hs.take 1⟩
 rintro J' w41 ⟨Jo,m2,rfl,hz2,hmg,hs⟩
 have k3b:=k3.out hmg.1 (.inr (Nat.le_refl _))
 have k4b:=k4.out hmg.1 (.inr (by omega))
 refine Qag (Qbj [some 206,some 207,some 208,some 209,some 210,some 211,some 212,some 213] [] [0,0,3,7,15,15,63,127] [pv (I6 (((lo+hi)/2:Nat):Int)),pv (I6 (((((lo+hi)/2)+mid)-s:Nat):Int)),pv (.bool (decide ((((lo+hi)/2:Nat):Int)<(((((lo+hi)/2)+mid)-s:Nat):Int)))),pv (.bool (decide ((((lo+hi)/2:Nat):Int)<(((((lo+hi)/2)+mid)-s:Nat):Int)))),pg ((decide ((((lo+hi)/2:Nat):Int)<(((((lo+hi)/2)+mid)-s:Nat):Int))) == true) (I6 (((((lo+hi)/2)+mid)-s:Nat):Int)),pg ((decide ((((lo+hi)/2:Nat):Int)<(((((lo+hi)/2)+mid)-s:Nat):Int))) == true) (I6 (hi:Int)),pg ((decide ((((lo+hi)/2:Nat):Int)<(((((lo+hi)/2)+mid)-s:Nat):Int))) == true) (.bool (decide ((((((lo+hi)/2)+mid)-s:Nat):Int)<(hi:Int)))),pv (.bool ((decide ((((lo+hi)/2:Nat):Int)<(((((lo+hi)/2)+mid)-s:Nat):Int)))&&(decide ((((((lo+hi)/2)+mid)-s:Nat):Int)<(hi:Int)))))] (fun _ _=>_) [7] (by kernel_rfl) hs ⟨?_,?_,?_,?_,?_,?_,?_,?_,trivial⟩ ?_)
 ·exact oa [] fun D J w hs=>Qac (V:=.int .i64 (((lo+hi)/2:Nat):Int)) rfl (Zz hs)
 ·exact oa [] fun D J w hs=>Qac (V:=.int .i64 (((((lo+hi)/2)+mid)-s:Nat):Int)) rfl (Zz hs)
 ·exact oa [0,1] fun D J w hs=>QaQ rfl rfl (Zz hs)
 ·exact oa [2] fun D J w hs=>Qac (V:=.bool (decide ((((lo+hi)/2:Nat):Int)<(((((lo+hi)/2)+mid)-s:Nat):Int)))) rfl (Zz hs)
 ·exact og [3] fun D J w hG hs=>Qac (V:=.int .i64 (((((lo+hi)/2)+mid)-s:Nat):Int)) rfl (Zz hs)
 ·exact og [3] fun D J w hG hs=>Qac (V:=.int .i64 (hi:Int)) rfl (Zz hs)
 ·exact oy [3,4,5] [4,5] fun D J w hG hs=>QaQ rfl rfl (Zz hs)
 ·exact oa [3,6] fun D J w hs=>Qa4 (h':=decide ((((((lo+hi)/2)+mid)-s:Nat):Int)<(hi:Int))) rfl rfl rfl (Zz hs)
 rintro J1 w42 J2 hJ hs
 replace hJ:J2=upd (mix (sq 206 8) J1 _) 213 (.bool ((decide ((((lo+hi)/2:Nat):Int)<(((((lo+hi)/2)+mid)-s:Nat):Int)))&&(decide ((((((lo+hi)/2)+mid)-s:Nat):Int)<(hi:Int))))):=hJ
 subst hJ
 refine Qgl (fun J J' w'=>∃ (Jo:Env) (m3:List Cen),J'=mix (sq 214 6) Jo J/\(m3.length=N)/\(Merged cf m2 m3 ((lo+hi)/2) hi)/\Own w S w' [row (.slice a N c) (m3.map cec) 106 7]) ?_ ?_
 ·
  refine Qan (t:=(decide ((((lo+hi)/2:Nat):Int)<(((((lo+hi)/2)+mid)-s:Nat):Int)))&&(decide ((((((lo+hi)/2)+mid)-s:Nat):Int)<(hi:Int)))) rfl (fun c43=>?_) (fun c43=>?_)
  ·
   have c43r:=QbF c43
   replace c43:=QbD c43
   replace c43:=QQ1 c43
   replace c43r:=QQ1 c43r
   refine Qab (Qaa (Qac (V:=.slice a N c) rfl (Qaa (Qac (V:=I6 (((lo+hi)/2:Nat):Int)) rfl (Qaa (Qac (V:=I6 (((((lo+hi)/2)+mid)-s:Nat):Int)) rfl (Qaa (Qac (V:=I6 (hi:Int)) rfl (Qaa (Qac (V:=.func (.func g) #[] #[]) rfl (Qaa (Qbv (α:=List Cen) (vs:=[.slice a N c,I6 (((lo+hi)/2:Nat):Int),I6 (((((lo+hi)/2)+mid)-s:Nat):Int),I6 (hi:Int),.func (.func g) #[] #[]]) (V:=fun _=>.tuple #[]) (R:=row (.slice a N c) (m2.map cec) 106 7) (R':=fun x=>row (.slice a N c) (x.map cec) 106 7) (Lo:=fun _=>[]) (F:=fun x _=>x.length=N/\Merged cf m2 x ((lo+hi)/2) hi) Qku rfl rfl hs 0 rfl (fun S hS hlt=>ih _ S a N c m2 ((lo+hi)/2) ((((lo+hi)/2)+mid)-s) hi hz2 hN (by omega) (by omega) (by omega) (by omega) k3b k4b hS hlt) fun mz44 w45 hs hF46=>(Qaf ?_)))))))))))))
   exact ⟨_,mz44,Qao (ds:=(sq 214 6)) (by repeat (first|exact Agr.refl _ _|refine Agr.upd ?_ rfl|refine Agr.mix ?_ rfl)),hF46.1,hF46.2,hs.take 1⟩
  refine Qap ?_
  exact ⟨_,m2,Qao (ds:=(sq 214 6)) (by repeat (first|exact Agr.refl _ _|refine Agr.upd ?_ rfl|refine Agr.mix ?_ rfl)),hz2,(⟨Qbd.refl m2 (by omega) (by omega),by
 have ht:=c43
 rcases Nat.lt_or_ge ((lo+hi)/2) ((lo+hi)/2+mid-s) with q|q
 ·have q2:hi<=(lo+hi)/2+mid-s:=by simp [q] at ht;omega
  exact k3b.sub (Nat.le_refl _) q2
 ·exact k4b.sub q (Nat.le_refl _)⟩),hs.take 1⟩
 rintro J' w47 ⟨Jo,m3,rfl,hz3,hmg2,hs⟩
 refine ⟨_,Qbr Tryz.results157,?_⟩
 exact ⟨m3,rfl,hs.take 1,hz3,Qn4 (hro.perm.wide (by omega) (by omega) (by omega)) hmg hmg2 (by omega) (by omega) (by omega) k5⟩
theorem QjK (g:Nat) (hg:En Tryz.prog g) (cf:Cen->Cen->Int) (hc:CmpO cf) (hcmp:∀ (w:World) (x y:Cen),Calls Tryz.prog g #[.agg (cec x).toArray,.agg (cec y).toArray] w (fun e w'=>e = .returned (.int .i64 (cf x y))/\Own w no w' [])) (d:Nat):QtH Tryz.prog 157 g 106 7 cec cf d:=by
 induction d with
 | zero=>intro w S a N c l lo mid hi hz hN hd h1 h2;omega
 | succ d ih=>intro w S a N c l lo mid hi hz hN hd h1 h2 h3 ho1 ho2 hR hlt;exact Qmf d g hg cf hc hcmp ih w S a N c l lo mid hi hz hN hd h1 h2 h3 ho1 ho2 hR hlt
end Tt
end Go.Proofs
