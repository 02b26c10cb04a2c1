/- A part of a proof: what functions of the program compute, and plain facts on that. -/
import Derived.Test.YtbjbjboehjdcaaaGreatCutsStatesP4
set_option linter.unusedVariables false
set_option linter.unusedSimpArgs false
set_option maxHeartbeats 4000000
set_option maxRecDepth 100000
namespace Go.Proofs
open Go Go.Vx Go.RowKit
namespace Tt
theorem Qdx (w:World) (p:Pst) (a1:Option Addr) (c1:Nat) (a2:Option Addr) (c2:Nat) (a3:Option Addr) (c3:Nat) (cut:Vec) (hcut:QbX cut) (hsortE:QgW Tryz.prog 48 49 cec 106 7 QjK) (hsortU:QgX Tryz.prog 134 .u16 32) (hok:Qdw p) (hle:p.base.ents.length<=400) (hlt:p.base.ticks.length<=400) (hlo:p.ops.length<=400) (hr1:Rd w (.slice a1 p.base.ents.length c1) 7 (p.base.ents.map cec)) (hr2:Rd w (.slice a2 p.base.ticks.length c2) 2 (p.base.ticks.map lsc)) (hr3:Rd w (.slice a3 p.ops.length c3) 23 (p.ops.map oc)):Calls Tryz.prog 12 #[.agg (((vc p.base.known)++[(.slice a1 p.base.ents.length c1:Value),(.slice a2 p.base.ticks.length c2:Value) ])++[(.slice a3 p.ops.length c3:Value) ]++(vc p.known)).toArray,.agg (vc cut).toArray] w (fun e w'=>∃ x:(Option Addr × Nat) × (Option Addr × Nat),e = .returned (.tuple #[.agg (vc (Qah p cut).known++[(.slice x.1.1 (Qah p cut).ents.length x.1.2:Value),(.slice x.2.1 (Qah p cut).ticks.length x.2.2:Value)]).toArray,.int .i64 (QaY p cut)])/\Own w no w' [row (.slice x.1.1 (Qah p cut).ents.length x.1.2) ((Qah p cut).ents.map cec) 106 7,row (.slice x.2.1 (Qah p cut).ticks.length x.2.2) ((Qah p cut).ticks.map lsc) 102 2]/\True):=by
 refine Qaj (n:=126) Tryz.func12 rfl Tryz.ntmps12 rfl ?_
 have hs:=Own.start w
 have ⟨hokb,hoko,hokk⟩:=hok
 have hn1:=hr1.sml
 have hn2:=hr2.sml
 have hn3:=hr3.sml
 refine Qag (Qab (Qaa (QaR (V:=.agg (((vc p.base.known)++[(.slice a1 p.base.ents.length c1:Value),(.slice a2 p.base.ticks.length c2:Value) ])++[(.slice a3 p.ops.length c3:Value) ]++(vc p.known)).toArray) (cs:=((vc p.base.known)++[(.slice a1 p.base.ents.length c1:Value),(.slice a2 p.base.ticks.length c2:Value) ])++[(.slice a3 p.ops.length c3:Value) ]++(vc p.known)) rfl rfl hs fun b1 w2 hs=>(Qaa (QaR (V:=.agg (vc cut).toArray) (cs:=vc cut) rfl rfl hs fun b3 w4 hs=>(Qaa (QaK (cs:=(vc vzero)++[(.slice none 0 0:Value),(.slice none 0 0:Value) ]) QgU rfl hs fun b5 w6 hs=>(Qaa (Qad (V:=I6 0) rfl (Qaf (Qag (Qag (Qab (Qaa (QaI (cs:=((vc p.base.known)++[(.slice a1 p.base.ents.length c1:Value),(.slice a2 p.base.ticks.length c2:Value) ])++[(.slice a3 p.ops.length c3:Value) ]++(vc p.known)) QeE hs 0 rfl rfl rfl (Qaa (QaI (cs:=vc cut) Qbt hs 1 rfl rfl rfl (Qaa (Qau (vs:=[.agg (((vc p.base.known)++[(.slice a1 p.base.ents.length c1:Value),(.slice a2 p.base.ticks.length c2:Value) ])++[(.slice a3 p.ops.length c3:Value) ]++(vc p.known)).toArray,.agg (vc cut).toArray]) (V:=I6 (QaY p cut)) Qq6 rfl rfl ?hc hs fun w7 hs=>?_)))))))))))))))))))
 case hc=>exact (Qjr _ p a1 c1 a2 c2 a3 c3 cut hcut hok hle hlt hlo (Rd.own' hr1 hs) (Rd.own' hr2 hs) (Rd.own' hr3 hs))
 refine Qaa (Qad (V:=I6 (QaY p cut)) rfl (Qaf (Qag (Qab (Qaa (Qac (V:=I6 (QaY p cut)) rfl (Qaa (Qb7 rfl rfl (Qaf (Qan (t:=!decide (QaY p cut=0)) rfl (fun c8=>?_) (fun c8=>?_)))))))))))
 ·
  replace c8:=Qbs c8
  replace c8:=QQ2 c8
  refine Qag (Qab (Qaa (Qcs (vs:=[]) (cs:=(vc vzero)++[(.slice none 0 0:Value),(.slice none 0 0:Value) ]) [vc vzero,[(.slice none 0 0:Value)],[(.slice none 0 0:Value)]] [vc vzero,[(.slice none 0 0:Value)],[(.slice none 0 0:Value)]] Qru rfl (rfl) rfl rfl (Qaa (Qac (V:=I6 (QaY p cut)) rfl (Qaa (Qcq (V:=.agg ((vc vzero)++[(.slice none 0 0:Value),(.slice none 0 0:Value) ]).toArray) (vs:=(vc vzero)++[(.slice none 0 0:Value),(.slice none 0 0:Value) ]) (cs':=(vc vzero)++[(.slice none 0 0:Value),(.slice none 0 0:Value) ]) QcD.1 hs 2 rfl rfl rfl rfl rfl (QQ8 rfl) (QbB (Qcd _) (Qat rfl (Qat rfl Qa9))) (Qay rfl) fun w9 hs=>?_)))))))
  replace hs:Own w no w9 [blk b1 (((vc p.base.known)++[(.slice a1 p.base.ents.length c1:Value),(.slice a2 p.base.ticks.length c2:Value) ])++[(.slice a3 p.ops.length c3:Value) ]++(vc p.known)) 43,blk b3 (vc cut) 24,blk b5 ((vc vzero)++[(.slice none 0 0:Value),(.slice none 0 0:Value) ]) 38]:=hs
  refine Qaa (Qad (V:=I6 (QaY p cut)) rfl (Qaf (Qaw ?_)))
  refine ⟨_,QcM (cs:=(vc vzero)++[(.slice none 0 0:Value),(.slice none 0 0:Value) ]) (V:=I6 (QaY p cut)) Tryz.results12 QcD hs 2 rfl rfl rfl rfl,?_⟩
  rw [QiR c8]
  exact ⟨((none,0),(none,0)),rfl,((hs.take 0).more _ (Qbo _ _ 106 7)).more _ (Qbo _ _ 102 2),trivial⟩
 replace c8:=Qbd c8
 replace c8:=QQ1 c8
 refine Qap (Qag (Qab (Qaa (QaK (cs:=[.slice none 0 0]) QuO rfl hs fun b10 w11 hs=>?_))))
 replace hs:Own w no w11 [blk b1 (((vc p.base.known)++[(.slice a1 p.base.ents.length c1:Value),(.slice a2 p.base.ticks.length c2:Value) ])++[(.slice a3 p.ops.length c3:Value) ]++(vc p.known)) 43,blk b3 (vc cut) 24,blk b5 ((vc vzero)++[(.slice none 0 0:Value),(.slice none 0 0:Value) ]) 38,blk b10 [.slice none 0 0] 29]:=hs
 refine Qaf (Qag (Qab (Qaa (Qgr rfl hs (Value.int .u16) (Value.int .u32) fun mr12 w13 hs=>(Qaa (Qad (V:=.map (some mr12)) rfl (Qaf (Qag (Qag (Qab (Qaa (Qae Qgw rfl (Qaa (Qae Qc5 rfl (Qaa (QaF (V:=.slice a2 p.base.ticks.length c2) Qgy hs 0 rfl rfl rfl (Qaa (QaX (n:=p.base.ticks.length) Qfi (Rd.own' hr2 hs) (by simp) rfl (Qaa (Qac (V:=I6 0) rfl (Qaf (Qam ?_))))))))))))))))))))))
 have hr0:=(Qe9 c8).1
 obtain ⟨hopsC,hrb⟩:=Qc2 hr0
 refine QaA (fun J μ J' w'=>∃ (Jo:Env) (k:Nat) (tm:List (Int × Int)),J'=upd (mix ([10]++sq 29 10) Jo J) 29 (I6 (k:Int))/\(k<=p.base.ticks.length)/\(tm=tk0 (p.base.ticks.take k))/\μ=p.base.ticks.length-k/\Own w no w' [blk b1 (((vc p.base.known)++[(.slice a1 p.base.ents.length c1:Value),(.slice a2 p.base.ticks.length c2:Value) ])++[(.slice a3 p.ops.length c3:Value) ]++(vc p.known)) 43,blk b3 (vc cut) 24,blk b5 ((vc vzero)++[(.slice none 0 0:Value),(.slice none 0 0:Value) ]) 38,blk b10 [.slice none 0 0] 29,QgV mr12 (Value.int .u16) (Value.int .u32) tm]) ?_ ?_
 ·exact ⟨_,_,0,[],Qai (Qao (ds:=([10]++sq 29 10)) (Agr.refl _ _)) rfl,(by omega),rfl,rfl,hs⟩
 rintro μ J' w14 ⟨Jo,k,tm,rfl,hk,htm,rfl,hs⟩
 refine Qag (Qab (Qaa (QaS rfl rfl (Qaf (Qag (Qan (t:=decide ((k:Int)<((p.base.ticks.length:Nat):Int))) rfl (fun c15=>?_) (fun c15=>?_)))))))
 ·
  replace c15:=QQ1 c15
  refine Qap (Qag (Qam (Qag (Qab (Qaa (Qax Qfi Qcz.1 (Rd.own' hr2 hs) rfl rfl (by omega) (by rw [QQ6];omega) (Qaa (QaV (j:=0) (vs:=lsc (gd p.base.ticks k)) k Qcz (Rd.own' hr2 hs) (QaW (by omega)) rfl rfl rfl (by omega) (Qaa (QaK (cs:=lsc (⟨0,0⟩:Lst)) QjX rfl hs fun b16 w17 hs=>(Qaa (Qcq (V:=.agg (lsc (gd p.base.ticks k)).toArray) (vs:=lsc (gd p.base.ticks k)) (cs':=lsc (gd p.base.ticks k)) Qcz.1 hs 5 rfl rfl rfl rfl rfl (QQ8 rfl) (QbF _) (Qay rfl) fun w18 hs=>(Qaf (Qab (Qaa (Qac (V:=.map (some mr12)) rfl (Qaa (Qae QeK rfl (Qaa (QaF (V:=I7 ((gd p.base.ticks k).cart)) Qar hs 5 rfl rfl rfl (Qaa (Qae QhL rfl (Qaa (QaF (V:=.int .u32 ((gd p.base.ticks k).tick)) Qa8 hs 5 rfl rfl rfl (Qaa (QfN (k:=(gd p.base.ticks k).cart) (v:=(gd p.base.ticks k).tick) Qh4 QnL hs 4 rfl rfl rfl rfl fun w19 hs=>?_))))))))))))))))))))))))))
  replace hs:Own w no w19 [blk b1 (((vc p.base.known)++[(.slice a1 p.base.ents.length c1:Value),(.slice a2 p.base.ticks.length c2:Value) ])++[(.slice a3 p.ops.length c3:Value) ]++(vc p.known)) 43,blk b3 (vc cut) 24,blk b5 ((vc vzero)++[(.slice none 0 0:Value),(.slice none 0 0:Value) ]) 38,blk b10 [.slice none 0 0] 29,QgV mr12 (Value.int .u16) (Value.int .u32) (mput ((gd p.base.ticks k).cart) ((gd p.base.ticks k).tick) tm),blk b16 (lsc (gd p.base.ticks k)) 102]:=hs
  refine Qaf (Qab (Qaa (QaD (a:=(k:Int)) (b:=1) (c:=((k+1:Nat):Int)) rfl rfl (Qak (by omega) (by omega)) (Qaa (Qac (V:=I6 ((k+1:Nat):Int)) rfl (Qaf ?_))))))
  refine ⟨_,?_,_,k+1,mput ((gd p.base.ticks k).cart) ((gd p.base.ticks k).tick) tm,Qai (Qao (ds:=([10]++sq 29 10)) (by repeat (first|exact Agr.refl _ _|refine Agr.upd ?_ rfl|refine Agr.mix ?_ rfl))) rfl,(by omega),(by rw [Qon (by omega),← htm]),rfl,hs.take 5⟩
  omega
 replace c15:=QQ2 c15
 refine QaH (Qag (Qab (Qaa (Qae Qgw rfl (Qaa (Qae QdR rfl (Qaa (QaF (V:=.slice a1 p.base.ents.length c1) Qit hs 0 rfl rfl rfl (Qaa (Qbf (vs:=[.slice a1 p.base.ents.length c1]) (V:=fun x:Option Addr × Nat=>.slice x.1 (p.base.ents).length x.2) Qvx rfl rfl (Qmc _ a1 c1 p.base.ents (by omega) (Rd.own' hr1 hs)) hs fun x20 w21 hs _=>(Qaa (Qad (V:=.slice x20.1 ((p.base.ents).length) x20.2) rfl (Qaf (Qag (Qag (Qab (Qaa (Qae Qlv rfl (Qaa (QaF (V:=.slice a3 p.ops.length c3) Qfk hs 0 rfl rfl rfl (Qaa (QaX (n:=p.ops.length) QdJ (Rd.own' hr3 hs) (by simp) rfl (Qaa (Qac (V:=I6 0) rfl (Qaf (Qam ?_))))))))))))))))))))))))))
 have htm0:tm=tk0 p.base.ticks:=by rw [htm,Qck (by omega)]
 replace hs:=hs.more (row (.slice none 0 0) (List.map oc []) 98 23) (Qbo _ _ _ _)
 refine QaA (fun J μ J' w'=>∃ (Jo:Env) (k2:Nat) (a8:Option Addr) (cb8:Nat) (l8:List Opn) (a7:Option Addr) (cb7:Nat) (L7:List Cen) (tm2:List (Int × Int)),J'=upd (upd (mix ([11,13]++sq 46 53) Jo J) 46 (I6 (k2:Int))) 11 (.slice a7 L7.length cb7)/\(k2<=p.ops.length)/\(l8=Qal (p.ops.take k2) cut)/\(L7=QbA p.base.ents l8)/\(tm2=tkM (tk0 p.base.ticks) l8)/\(L7.length<=p.base.ents.length+k2)/\(l8.length<=k2)/\μ=p.ops.length-k2/\Own w no w' [blk b1 (((vc p.base.known)++[(.slice a1 p.base.ents.length c1:Value),(.slice a2 p.base.ticks.length c2:Value) ])++[(.slice a3 p.ops.length c3:Value) ]++(vc p.known)) 43,blk b3 (vc cut) 24,blk b5 ((vc vzero)++[(.slice none 0 0:Value),(.slice none 0 0:Value) ]) 38,blk b10 [.slice a8 l8.length cb8] 29,QgV mr12 (Value.int .u16) (Value.int .u32) tm2,row (.slice a7 L7.length cb7) (L7.map cec) 106 7,row (.slice a8 l8.length cb8) (l8.map oc) 98 23]) ?_ ?_
 ·exact ⟨_,_,0,none,0,[],x20.1,x20.2,p.base.ents,tm,Qai (Qai (Qao (ds:=([11,13]++sq 46 53)) (Agr.refl _ _)) rfl) rfl,(by omega),rfl,(by simp [QbA]),(by rw [htm0];rfl),(by omega),(Nat.le_refl _),rfl,hs⟩
 rintro μ J' w22 ⟨Jo,k2,a8,cb8,l8,a7,cb7,L7,tm2,rfl,hk2,hl8,hL7,htm2,hn7,hn8,rfl,hs⟩
 refine Qag (Qab (Qaa (QaS rfl rfl (Qaf (Qag (Qan (t:=decide ((k2:Int)<((p.ops.length:Nat):Int))) rfl (fun c23=>?_) (fun c23=>?_)))))))
 ·
  replace c23:=QQ1 c23
  refine Qap (Qag (Qam (Qag (Qab (Qaa (Qax QdJ QbZ.1 (Rd.own' hr3 hs) rfl rfl (by omega) (by rw [QQ6];omega) (Qaa (QaV (j:=0) (vs:=oc (gd p.ops k2)) k2 QbZ (Rd.own' hr3 hs) (QaW (by omega)) rfl rfl rfl (by omega) (Qaa (QaK (cs:=oc (⟨(⟨0,0⟩:Dot),0,0,0,0,0,vzero⟩:Opn)) Qmf rfl hs fun b24 w25 hs=>(Qaa (Qcq (V:=.agg (oc (gd p.ops k2)).toArray) (vs:=oc (gd p.ops k2)) (cs':=oc (gd p.ops k2)) QbZ.1 hs 7 rfl rfl rfl rfl rfl (QQ8 rfl) (Qep _) (Qay rfl) fun w26 hs=>?_))))))))))))
  replace hs:Own w no w26 [blk b1 (((vc p.base.known)++[(.slice a1 p.base.ents.length c1:Value),(.slice a2 p.base.ticks.length c2:Value) ])++[(.slice a3 p.ops.length c3:Value) ]++(vc p.known)) 43,blk b3 (vc cut) 24,blk b5 ((vc vzero)++[(.slice none 0 0:Value),(.slice none 0 0:Value) ]) 38,blk b10 [.slice a8 l8.length cb8] 29,QgV mr12 (Value.int .u16) (Value.int .u32) tm2,row (.slice a7 L7.length cb7) (L7.map cec) 106 7,row (.slice a8 l8.length cb8) (l8.map oc) 98 23,blk b24 (oc (gd p.ops k2)) 98]:=hs
  refine Qaf (Qag (Qag ?_))
  have hOk:=hoko _ (QbP (l:=p.ops) (i:=k2) (by omega))
  have hdk:=hOk.1
  have hxk:=hOk.2.2.2.2.2.2
  refine Qab (Qaa (QaI (cs:=vc cut) Qbt hs 1 rfl rfl rfl (Qaa (Qae Qb0 rfl (Qaa (QbL (vs:=dc ((gd p.ops k2).dot)) QcI hs 7 rfl rfl rfl rfl (Qaa (Qau (vs:=[.agg (vc cut).toArray,.agg (dc ((gd p.ops k2).dot)).toArray]) (V:=.bool (Qbz cut ((gd p.ops k2).dot))) Qpe rfl rfl ?hc hs fun w27 hs=>?_))))))))
  case hc=>exact (QhR _ cut ((gd p.ops k2).dot) (by first|assumption|exact Qdf (by omega) (by omega) (by omega) (by omega)))
  refine Qaa (Qbx rfl (Qaf (Qan (t:=!(Qbz cut ((gd p.ops k2).dot))) rfl (fun c28=>?_) (fun c28=>?_))))
  ·
   replace c28:=Qbs c28
   refine QaH (Qab (Qaa (QaD (a:=(k2:Int)) (b:=1) (c:=((k2+1:Nat):Int)) rfl rfl (Qak (by omega) (by omega)) (Qaa (Qac (V:=I6 ((k2+1:Nat):Int)) rfl (Qaf ?_))))))
   refine ⟨_,?_,_,k2+1,a8,cb8,l8,a7,cb7,L7,tm2,Qai (Qai (Qao (ds:=([11,13]++sq 46 53)) (by repeat (first|exact Agr.refl _ _|refine Agr.upd ?_ rfl|refine Agr.mix ?_ rfl))) rfl) rfl,(by omega),(Qj5 hl8 (by omega) c28),hL7,htm2,(by omega),(by omega),rfl,hs.take 7⟩
   omega
  replace c28:=Qbd c28
  refine Qap (Qag (Qab (Qaa (QaF (V:=.slice a8 l8.length cb8) Qfk hs 3 rfl rfl rfl (Qaa (QaI (cs:=oc (gd p.ops k2)) QbZ hs 7 rfl rfl rfl (Qaa (QeP (vals:=[.agg (oc (gd p.ops k2)).toArray]) (ls:=List.map oc ([gd p.ops k2]:List Opn)) Ql5 rfl rfl rfl (Qbi (enc:=oc) (fun _=>rfl) _) (QaL Qep _) (QQ8 rfl) hs fun b29 w30 hs=>(Qaa (QbY (ls':=(l8++[gd p.ops k2]).map oc) (n:=(l8++[gd p.ops k2]).length) Ql5 hs 6 rfl rfl rfl (hs.rd 8 rfl) (QaL Qep _) (by simp only [QQ6,QQ7,List.length_cons,List.length_nil];omega) (by simp) (by simp) fun a31 c31 w32 hs=>(Qaa (QcR (V:=.slice a31 ((l8++[gd p.ops k2]).length) c31) (cs':=[.slice a31 ((l8++[gd p.ops k2]).length) c31]) Qfk hs 3 rfl rfl rfl rfl (QQ8 rfl) rfl fun w33 hs=>(Qaf (Qag (Qab (Qaa (Qac (V:=.map (some mr12)) rfl (Qaa (Qae QdH rfl (Qaa (QaF (V:=I7 ((gd p.ops k2).cart)) Qar hs 7 rfl rfl rfl (Qaa (Qac (V:=.map (some mr12)) rfl (Qaa (Qae QdH rfl (Qaa (QaF (V:=I7 ((gd p.ops k2).cart)) Qar hs 7 rfl rfl rfl (Qaa (Qib (k:=(gd p.ops k2).cart) (z:=0) Qh4 QnL Qt2 (hs.mapf 4 rfl) rfl rfl (Qaa (Qae QhE rfl (Qaa (QaF (V:=.int .u32 ((gd p.ops k2).tick)) Qa8 hs 7 rfl rfl rfl (Qaa (Qrp rfl rfl (Qaa (QfN (k:=(gd p.ops k2).cart) (v:=max ((mget ((gd p.ops k2).cart) tm2).getD 0) ((gd p.ops k2).tick)) Qh4 QnL hs 4 rfl rfl rfl rfl fun w34 hs=>?_)))))))))))))))))))))))))))))))))))))
  replace hs:Own w no w34 [blk b1 (((vc p.base.known)++[(.slice a1 p.base.ents.length c1:Value),(.slice a2 p.base.ticks.length c2:Value) ])++[(.slice a3 p.ops.length c3:Value) ]++(vc p.known)) 43,blk b3 (vc cut) 24,blk b5 ((vc vzero)++[(.slice none 0 0:Value),(.slice none 0 0:Value) ]) 38,blk b10 [.slice a31 ((l8++[gd p.ops k2]).length) c31] 29,QgV mr12 (Value.int .u16) (Value.int .u32) (mput ((gd p.ops k2).cart) (max ((mget ((gd p.ops k2).cart) tm2).getD 0) ((gd p.ops k2).tick)) tm2),row (.slice a7 L7.length cb7) (L7.map cec) 106 7,row (.slice a31 ((l8++[gd p.ops k2]).length) c31) ((l8++[gd p.ops k2]).map oc) 98 23,blk b24 (oc (gd p.ops k2)) 98,row (.slice (some ⟨b29,0,none⟩) 1 1) ([gd p.ops k2].map oc) 98 23]:=hs
  refine Qaf (Qag (Qbm [some 69,some 70,some 71,some 72,some 73,some 74,some 75,some 76,some 77,some 78,some 79,some 80,some 81] [] [0,1,3,7,15,31,63,127,255,511,1023,2047,4095] [pv (Pq b24 (0+2)),pv (.int .u8 ((gd p.ops k2).kind)),pv (.bool (decide ((gd p.ops k2).kind=1))),pv (.bool (decide ((gd p.ops k2).kind=1))),pg ((decide ((gd p.ops k2).kind=1)) == false) (Pq b24 (0+2)),pg ((decide ((gd p.ops k2).kind=1)) == false) (.int .u8 ((gd p.ops k2).kind)),pg ((decide ((gd p.ops k2).kind=1)) == false) (.bool (decide ((gd p.ops k2).kind=2))),pv (.bool ((decide ((gd p.ops k2).kind=1))||(decide ((gd p.ops k2).kind=2)))),pv (.bool ((decide ((gd p.ops k2).kind=1))||(decide ((gd p.ops k2).kind=2)))),pg (((decide ((gd p.ops k2).kind=1))||(decide ((gd p.ops k2).kind=2))) == false) (Pq b24 (0+2)),pg (((decide ((gd p.ops k2).kind=1))||(decide ((gd p.ops k2).kind=2))) == false) (.int .u8 ((gd p.ops k2).kind)),pg (((decide ((gd p.ops k2).kind=1))||(decide ((gd p.ops k2).kind=2))) == false) (.bool (decide ((gd p.ops k2).kind=4))),pv (.bool (Qa4 (gd p.ops k2)))] (fun _ _=>_) [12] (by kernel_rfl) hs ⟨?_,?_,?_,?_,?_,?_,?_,?_,?_,?_,?_,?_,?_,trivial⟩ ?_))
  ·exact oa [] fun D J w hs=>Qae QbQ rfl (Zz hs)
  ·exact oa [0] fun D J w hs=>QaF (V:=.int .u8 ((gd p.ops k2).kind)) QcJ hs 7 rfl rfl rfl (Zz hs)
  ·exact oa [1] fun D J w hs=>QaT rfl rfl (Zz hs)
  ·exact oa [2] fun D J w hs=>Qac (V:=.bool (decide ((gd p.ops k2).kind=1))) rfl (Zz hs)
  ·exact og [3] fun D J w hG hs=>Qae QbQ rfl (Zz hs)
  ·exact oy [3,4] [4] fun D J w hG hs=>QaF (V:=.int .u8 ((gd p.ops k2).kind)) QcJ hs 7 rfl rfl rfl (Zz hs)
  ·exact oy [3,5] [5] fun D J w hG hs=>QaT rfl rfl (Zz hs)
  ·exact oa [3,6] fun D J w hs=>QbM (h':=decide ((gd p.ops k2).kind=2)) rfl rfl rfl (Zz hs)
  ·exact oa [7] fun D J w hs=>Qac (V:=.bool ((decide ((gd p.ops k2).kind=1))||(decide ((gd p.ops k2).kind=2)))) rfl (Zz hs)
  ·exact og [8] fun D J w hG hs=>Qae QbQ rfl (Zz hs)
  ·exact oy [8,9] [9] fun D J w hG hs=>QaF (V:=.int .u8 ((gd p.ops k2).kind)) QcJ hs 7 rfl rfl rfl (Zz hs)
  ·exact oy [8,10] [10] fun D J w hG hs=>QaT rfl rfl (Zz hs)
  ·exact oa [8,11] fun D J w hs=>Qbk (V:=.bool (((decide ((gd p.ops k2).kind=1))||(decide ((gd p.ops k2).kind=2)))||(decide ((gd p.ops k2).kind=4)))) (V':=.bool (Qa4 (gd p.ops k2))) (QbM (h':=decide ((gd p.ops k2).kind=4)) rfl rfl rfl ⟨rfl,rfl⟩) (congrArg Value.bool (QqN _)) (Zz hs)
  rintro J1 w35 J2 hJ hs
  replace hJ:J2=upd (mix (sq 69 13) J1 _) 81 (.bool (Qa4 (gd p.ops k2))):=hJ
  subst hJ
  refine Qan (t:=Qa4 (gd p.ops k2)) rfl (fun c36=>?_) (fun c36=>?_)
  ·
   replace hs:=hs.more emp trivial
   refine QaJ HM [some 82,some 83,some 84,some 85,some 86,some 87,some 88,some 89,some 90,some 91,some 92,some 93,some 94,some 95,some 96,some 97,some 11] [[],[],[],[],[],[],[],[],[],[],[],[],[],[],[96],[97],[97]] [0,0,2,0,8,0,32,0,128,0,512,0,2048,8190,16382,32767,65535] [pv (.slice a7 L7.length cb7),pv (Pq b24 (0+3)),pv (I7 ((gd p.ops k2).cart)),pv (Pq b24 (0+4)),pv (I7 ((gd p.ops k2).item)),pv (Pq b24 (0+5)),pv (I7 ((gd p.ops k2).qty)),pv (Pq b24 (0+2)),pv (.int .u8 ((gd p.ops k2).kind)),pv (Pq b24 (0+0)),pv (.agg (dc ((gd p.ops k2).dot)).toArray),pv (.agg (oc (gd p.ops k2)).toArray),pv (.int .u64 (QcT (gd p.ops k2))),pv (.agg (cec (⟨(gd p.ops k2).cart,(gd p.ops k2).item,(gd p.ops k2).qty,(gd p.ops k2).kind,(gd p.ops k2).dot,QcT (gd p.ops k2)⟩:Cen)).toArray),(true,fun J=>.slice (some ⟨(bOf (J 96)),0,none⟩) 1 1),(true,fun J=>.slice (aOf (J 97)) ((L7++[(⟨(gd p.ops k2).cart,(gd p.ops k2).item,(gd p.ops k2).qty,(gd p.ops k2).kind,(gd p.ops k2).dot,QcT (gd p.ops k2)⟩:Cen)]).length) (cOf (J 97))),(true,fun J=>.slice (aOf (J 97)) ((L7++[(⟨(gd p.ops k2).cart,(gd p.ops k2).item,(gd p.ops k2).qty,(gd p.ops k2).kind,(gd p.ops k2).dot,QcT (gd p.ops k2)⟩:Cen)]).length) (cOf (J 97)))] (fun D J=>[blk b1 (((vc p.base.known)++[(.slice a1 p.base.ents.length c1:Value),(.slice a2 p.base.ticks.length c2:Value) ])++[(.slice a3 p.ops.length c3:Value) ]++(vc p.known)) 43,blk b3 (vc cut) 24,blk b5 ((vc vzero)++[(.slice none 0 0:Value),(.slice none 0 0:Value) ]) 38,blk b10 [.slice a31 ((l8++[gd p.ops k2]).length) c31] 29,QgV mr12 (Value.int .u16) (Value.int .u32) (mput ((gd p.ops k2).cart) (max ((mget ((gd p.ops k2).cart) tm2).getD 0) ((gd p.ops k2).tick)) tm2),cond (D 15) (row (.slice (aOf (J 97)) ((L7++[(⟨(gd p.ops k2).cart,(gd p.ops k2).item,(gd p.ops k2).qty,(gd p.ops k2).kind,(gd p.ops k2).dot,QcT (gd p.ops k2)⟩:Cen)]).length) (cOf (J 97))) ((L7++[(⟨(gd p.ops k2).cart,(gd p.ops k2).item,(gd p.ops k2).qty,(gd p.ops k2).kind,(gd p.ops k2).dot,QcT (gd p.ops k2)⟩:Cen)]).map cec) 106 7) (row (.slice a7 L7.length cb7) (L7.map cec) 106 7),row (.slice a31 ((l8++[gd p.ops k2]).length) c31) ((l8++[gd p.ops k2]).map oc) 98 23,blk b24 (oc (gd p.ops k2)) 98,row (.slice (some ⟨b29,0,none⟩) 1 1) ([gd p.ops k2].map oc) 98 23,cond (D 14) (row (.slice (some ⟨(bOf (J 96)),0,none⟩) 1 1) ([(⟨(gd p.ops k2).cart,(gd p.ops k2).item,(gd p.ops k2).qty,(gd p.ops k2).kind,(gd p.ops k2).dot,QcT (gd p.ops k2)⟩:Cen)].map cec) 106 7) (emp)]) [16] (by kernel_rfl) hs ⟨?_,?_,?_,?_,?_,?_,?_,?_,?_,?_,?_,?_,?_,?_,?_,?_,?_,trivial⟩ ?_
   ·exact ob [] [16] rfl rfl fun D J w hs=>Qac (V:=.slice a7 L7.length cb7) rfl (Zz hs)
   ·exact oa [] fun D J w hs=>Qae QdH rfl (Zz hs)
   ·exact oa [1] fun D J w hs=>QaF (V:=.int .u16 ((gd p.ops k2).cart)) Qar hs 7 rfl rfl rfl (Zz hs)
   ·exact oa [] fun D J w hs=>Qae QcX rfl (Zz hs)
   ·exact oa [3] fun D J w hs=>QaF (V:=.int .u16 ((gd p.ops k2).item)) Qar hs 7 rfl rfl rfl (Zz hs)
   ·exact oa [] fun D J w hs=>Qae Qdo rfl (Zz hs)
   ·exact oa [5] fun D J w hs=>QaF (V:=.int .u16 ((gd p.ops k2).qty)) Qar hs 7 rfl rfl rfl (Zz hs)
   ·exact oa [] fun D J w hs=>Qae QbQ rfl (Zz hs)
   ·exact oa [7] fun D J w hs=>QaF (V:=.int .u8 ((gd p.ops k2).kind)) QcJ hs 7 rfl rfl rfl (Zz hs)
   ·exact oa [] fun D J w hs=>Qae Qb0 rfl (Zz hs)
   ·exact oa [9] fun D J w hs=>QbL (vs:=dc ((gd p.ops k2).dot)) QcI hs 7 rfl rfl rfl rfl (Zz hs)
   ·exact oa [] fun D J w hs=>QaI (cs:=oc (gd p.ops k2)) QbZ hs 7 rfl rfl rfl (Zz hs)
   ·exact oa [11] fun D J w hs=>Qau (vs:=[.agg (oc (gd p.ops k2)).toArray]) (V:=.int .u64 (QcT (gd p.ops k2))) QuV rfl rfl (Qll _ (gd p.ops k2) hxk) hs fun _ hs=>Zz hs
   ·exact oa [2,4,6,8,10,12] fun D J w hs=>Qby (vs:=[(0,.int .u16 ((gd p.ops k2).cart)),(1,.int .u16 ((gd p.ops k2).item)),(2,.int .u16 ((gd p.ops k2).qty)),(3,.int .u8 ((gd p.ops k2).kind)),(4,.agg (dc ((gd p.ops k2).dot)).toArray),(5,.int .u64 (QcT (gd p.ops k2)))]) (cs:=cec (⟨(gd p.ops k2).cart,(gd p.ops k2).item,(gd p.ops k2).qty,(gd p.ops k2).kind,(gd p.ops k2).dot,QcT (gd p.ops k2)⟩:Cen)) QtN (rfl) rfl (Zz hs)
   ·exact oa [13] fun D J w hs=>QeP (vals:=[.agg (cec (⟨(gd p.ops k2).cart,(gd p.ops k2).item,(gd p.ops k2).qty,(gd p.ops k2).kind,(gd p.ops k2).dot,QcT (gd p.ops k2)⟩:Cen)).toArray]) (ls:=List.map cec ([(⟨(gd p.ops k2).cart,(gd p.ops k2).item,(gd p.ops k2).qty,(gd p.ops k2).kind,(gd p.ops k2).dot,QcT (gd p.ops k2)⟩:Cen)]:List Cen)) QhV rfl rfl rfl (Qbi (enc:=cec) (fun _=>rfl) _) (QaL Qa6 _) (QQ8 rfl) hs fun _ _ hs=>⟨rfl,hs.put 9 (QQ8 rfl)⟩
   ·exact oa [0,14] fun D J w hs=>QbY (ls':=(L7++[(⟨(gd p.ops k2).cart,(gd p.ops k2).item,(gd p.ops k2).qty,(gd p.ops k2).kind,(gd p.ops k2).dot,QcT (gd p.ops k2)⟩:Cen)]).map cec) (n:=(L7++[(⟨(gd p.ops k2).cart,(gd p.ops k2).item,(gd p.ops k2).qty,(gd p.ops k2).kind,(gd p.ops k2).dot,QcT (gd p.ops k2)⟩:Cen)]).length) QhV hs 5 rfl rfl rfl (hs.rd 9 rfl) (QaL Qa6 _) (by simp only [QQ6,QQ7,List.length_cons,List.length_nil];omega) (by simp) (by simp) fun _ _ _ hs=>⟨rfl,hs⟩
   ·exact oa [15] fun D J w hs=>Qad (V:=.slice (aOf (J 97)) ((L7++[(⟨(gd p.ops k2).cart,(gd p.ops k2).item,(gd p.ops k2).qty,(gd p.ops k2).kind,(gd p.ops k2).dot,QcT (gd p.ops k2)⟩:Cen)]).length) (cOf (J 97))) rfl (Zz hs)
   rintro J1 w40 J2 hJ hs
   replace hJ:J2=upd (mix (sq 82 16++[11]) J1 _) 11 (.slice (aOf (J1 97)) ((L7++[(⟨(gd p.ops k2).cart,(gd p.ops k2).item,(gd p.ops k2).qty,(gd p.ops k2).kind,(gd p.ops k2).dot,QcT (gd p.ops k2)⟩:Cen)]).length) (cOf (J1 97))):=hJ
   replace hs:Own w no w40 [blk b1 (((vc p.base.known)++[(.slice a1 p.base.ents.length c1:Value),(.slice a2 p.base.ticks.length c2:Value) ])++[(.slice a3 p.ops.length c3:Value) ]++(vc p.known)) 43,blk b3 (vc cut) 24,blk b5 ((vc vzero)++[(.slice none 0 0:Value),(.slice none 0 0:Value) ]) 38,blk b10 [.slice a31 ((l8++[gd p.ops k2]).length) c31] 29,QgV mr12 (Value.int .u16) (Value.int .u32) (mput ((gd p.ops k2).cart) (max ((mget ((gd p.ops k2).cart) tm2).getD 0) ((gd p.ops k2).tick)) tm2),row (.slice (aOf (J1 97)) ((L7++[(⟨(gd p.ops k2).cart,(gd p.ops k2).item,(gd p.ops k2).qty,(gd p.ops k2).kind,(gd p.ops k2).dot,QcT (gd p.ops k2)⟩:Cen)]).length) (cOf (J1 97))) ((L7++[(⟨(gd p.ops k2).cart,(gd p.ops k2).item,(gd p.ops k2).qty,(gd p.ops k2).kind,(gd p.ops k2).dot,QcT (gd p.ops k2)⟩:Cen)]).map cec) 106 7,row (.slice a31 ((l8++[gd p.ops k2]).length) c31) ((l8++[gd p.ops k2]).map oc) 98 23,blk b24 (oc (gd p.ops k2)) 98,row (.slice (some ⟨b29,0,none⟩) 1 1) ([gd p.ops k2].map oc) 98 23,row (.slice (some ⟨(bOf (J1 96)),0,none⟩) 1 1) ([(⟨(gd p.ops k2).cart,(gd p.ops k2).item,(gd p.ops k2).qty,(gd p.ops k2).kind,(gd p.ops k2).dot,QcT (gd p.ops k2)⟩:Cen)].map cec) 106 7]:=hs
   generalize (bOf (J1 96))=b41 at hs
   generalize (aOf (J1 97))=a42 at hJ hs
   generalize (cOf (J1 97))=c43 at hJ hs
   subst hJ
   refine Qab (Qaa (QaD (a:=(k2:Int)) (b:=1) (c:=((k2+1:Nat):Int)) rfl rfl (Qak (by omega) (by omega)) (Qaa (Qac (V:=I6 ((k2+1:Nat):Int)) rfl (Qaf ?_)))))
   refine ⟨_,?_,_,k2+1,a31,c31,l8++[gd p.ops k2],a42,c43,L7++[(⟨(gd p.ops k2).cart,(gd p.ops k2).item,(gd p.ops k2).qty,(gd p.ops k2).kind,(gd p.ops k2).dot,QcT (gd p.ops k2)⟩:Cen)],mput ((gd p.ops k2).cart) (max ((mget ((gd p.ops k2).cart) tm2).getD 0) ((gd p.ops k2).tick)) tm2,Qai (Qai (Qao (ds:=([11,13]++sq 46 53)) (by repeat (first|exact Agr.refl _ _|refine Agr.upd ?_ rfl|refine Agr.mix ?_ rfl))) rfl) rfl,(by omega),(Qgs hl8 (by omega) c28),(by rw [hL7];exact Qfg c36),(by rw [QhO,← htm2]),(by simp only [QQ7,List.length_singleton];omega),(by simp only [QQ7,List.length_singleton];omega),rfl,hs.take 7⟩
   omega
  refine Qap (Qab (Qaa (QaD (a:=(k2:Int)) (b:=1) (c:=((k2+1:Nat):Int)) rfl rfl (Qak (by omega) (by omega)) (Qaa (Qac (V:=I6 ((k2+1:Nat):Int)) rfl (Qaf ?_))))))
  refine ⟨_,?_,_,k2+1,a31,c31,l8++[gd p.ops k2],a7,cb7,L7,mput ((gd p.ops k2).cart) (max ((mget ((gd p.ops k2).cart) tm2).getD 0) ((gd p.ops k2).tick)) tm2,Qai (Qai (Qao (ds:=([11,13]++sq 46 53)) (by repeat (first|exact Agr.refl _ _|refine Agr.upd ?_ rfl|refine Agr.mix ?_ rfl))) rfl) rfl,(by omega),(Qgs hl8 (by omega) c28),(by rw [hL7];exact Qh2 c36),(by rw [QhO,← htm2]),(by omega),(by simp only [QQ7,List.length_singleton];omega),rfl,hs.take 7⟩
  omega
 replace c23:=QQ2 c23
 refine QaH (Qag ?_)
 have hu:l8=Qal p.ops cut:=by rw [hl8,Qck (by omega)]
 have hus:∀ o∈l8,o∈p.ops:=fun o h=>by rw [hu] at h;exact Qds h
 have hdt:∀ x∈L7,Qc1 x.dot:=by rw [hL7];exact QkU hok hus
 have htl:tm2.length<=10000:=by have:=QqR hok hr0 l8 hus;rw [← htm2] at this;omega
 have hfl:=List.length_filter_le (fun x=>!(fun x=>l8.any fun o=>QaZ o (Qbn x)) x) L7
 refine Qab (Qaa (Qac (V:=.slice a7 L7.length cb7) rfl (Qaa (QdA (cs:=[Pq b10 0]) rfl rfl (Qaa (Qjg (α:=Unit) (vs:=[.slice a7 L7.length cb7,.func (.func 43) #[] #[Pq b10 0]]) (V:=fun _=>.slice a7 (L7.filter fun x=>!(fun x=>l8.any fun o=>QaZ o (Qbn x)) x).length cb7) (R:=row (.slice a7 L7.length cb7) (L7.map cec) 106 7) (R':=fun _=>row (.slice a7 (L7.filter fun x=>!(fun x=>l8.any fun o=>QaZ o (Qbn x)) x).length cb7) ((L7.filter fun x=>!(fun x=>l8.any fun o=>QaZ o (Qbn x)) x).map cec) 106 7) (Lo:=fun _=>[]) (F:=fun _ _=>True) QuM rfl rfl hs 5 rfl (fun S hS hlS hK=>QmJ _ S a7 cb7 L7 43 [Pq b10 0] QvE (fun x=>l8.any fun o=>QaZ o (Qbn x)) (fun w1 L1 h x hx=>QmH w1 x b10 a8 cb8 l8 (hdt x hx) ((hK 3 (by decide) _ rfl).cells h) ((hK 6 (by decide) _ rfl).rd h)) hS hlS) fun _ w44 hs _=>(Qaa (Qad (V:=.slice a7 ((L7.filter fun x=>!(fun x=>l8.any fun o=>QaZ o (Qbn x)) x).length) cb7) rfl (Qaf (Qag (Qab (Qaa (Qac (V:=.slice a7 ((L7.filter fun x=>!(fun x=>l8.any fun o=>QaZ o (Qbn x)) x).length) cb7) rfl (Qaa (Qbu (α:={ m:List Cen // QjK (L7.filter fun x=>!(fun x=>l8.any fun o=>QaZ o (Qbn x)) x) m }) (vs:=[.slice a7 ((L7.filter fun x=>!(fun x=>l8.any fun o=>QaZ o (Qbn x)) x).length) cb7,.func (.func 49) #[] #[]]) (V:=fun _=>.tuple #[]) (R:=row (.slice a7 ((L7.filter fun x=>!(fun x=>l8.any fun o=>QaZ o (Qbn x)) x).length) cb7) ((L7.filter fun x=>!(fun x=>l8.any fun o=>QaZ o (Qbn x)) x).map cec) 106 7) (R':=fun x=>row (.slice a7 ((L7.filter fun x=>!(fun x=>l8.any fun o=>QaZ o (Qbn x)) x).length) cb7) (x.1.map cec) 106 7) (Lo:=fun _=>[]) (F:=fun _ _=>True) QuS rfl rfl hs 5 rfl (fun S hS hlt=>hsortE _ S _ _ _ hS hlt (by omega)) fun sx46 w45 hs _=>?_)))))))))))))))
 replace hs:Own w no w45 [blk b1 (((vc p.base.known)++[(.slice a1 p.base.ents.length c1:Value),(.slice a2 p.base.ticks.length c2:Value) ])++[(.slice a3 p.ops.length c3:Value) ]++(vc p.known)) 43,blk b3 (vc cut) 24,blk b5 ((vc vzero)++[(.slice none 0 0:Value),(.slice none 0 0:Value) ]) 38,blk b10 [.slice a8 l8.length cb8] 29,QgV mr12 (Value.int .u16) (Value.int .u32) tm2,row (.slice a7 ((L7.filter fun x=>!(fun x=>l8.any fun o=>QaZ o (Qbn x)) x).length) cb7) (sx46.1.map cec) 106 7,row (.slice a8 l8.length cb8) (l8.map oc) 98 23]:=hs
 refine Qaf (Qag (Qab (Qaa (QaI (cs:=vc cut) Qbt hs 1 rfl rfl rfl (Qaa (Qac (V:=.slice a7 ((L7.filter fun x=>!(fun x=>l8.any fun o=>QaZ o (Qbn x)) x).length) cb7) rfl (Qaa (Qcs (vs:=[(0,.agg (vc cut).toArray),(1,.slice a7 ((L7.filter fun x=>!(fun x=>l8.any fun o=>QaZ o (Qbn x)) x).length) cb7)]) (cs:=(vc cut)++[(.slice a7 ((L7.filter fun x=>!(fun x=>l8.any fun o=>QaZ o (Qbn x)) x).length) cb7:Value),(.slice none 0 0:Value) ]) [vc vzero,[(.slice none 0 0:Value)],[(.slice none 0 0:Value)]] [vc cut,[(.slice a7 ((L7.filter fun x=>!(fun x=>l8.any fun o=>QaZ o (Qbn x)) x).length) cb7:Value)],[(.slice none 0 0:Value)]] Qru rfl (rfl) rfl rfl (Qaa (QaK (cs:=(vc vzero)++[(.slice none 0 0:Value),(.slice none 0 0:Value) ]) QgU rfl hs fun b47 w48 hs=>(Qaa (Qcq (V:=.agg ((vc cut)++[(.slice a7 ((L7.filter fun x=>!(fun x=>l8.any fun o=>QaZ o (Qbn x)) x).length) cb7:Value),(.slice none 0 0:Value) ]).toArray) (vs:=(vc cut)++[(.slice a7 ((L7.filter fun x=>!(fun x=>l8.any fun o=>QaZ o (Qbn x)) x).length) cb7:Value),(.slice none 0 0:Value) ]) (cs':=(vc cut)++[(.slice a7 ((L7.filter fun x=>!(fun x=>l8.any fun o=>QaZ o (Qbn x)) x).length) cb7:Value),(.slice none 0 0:Value) ]) QcD.1 hs 7 rfl rfl rfl rfl rfl (QQ8 rfl) (QbB (Qcd _) (Qat rfl (Qat rfl Qa9))) (Qay rfl) fun w49 hs=>(Qaf (Qag (Qag (Qab (Qaa (Qac (V:=.map (some mr12)) rfl (Qaa (Qbf (vs:=[.map (some mr12)]) (V:=fun x:Option Addr × Nat=>.slice x.1 (Qbc (tm2.map (·.1))).length x.2) QuD rfl rfl (Qnl _ mr12 tm2 (hs.mapf 4 rfl) (by omega) hsortU) hs fun x50 w51 hs _=>(Qaa (QaX (n:=(Qbc (tm2.map (·.1))).length) QaO (hs.rd 8 rfl) (by simp) rfl (Qaa (Qac (V:=I6 0) rfl (Qaf (Qam ?_))))))))))))))))))))))))))
 have hks:(Qbc (tm2.map (·.1))).length<=10000:=by rw [Qe6,QQ6];exact htl
 replace hs:=hs.more (row (.slice none 0 0) (List.map lsc []) 102 2) (Qbo _ _ _ _)
 refine QaA (fun J μ J' w'=>∃ (Jo:Env) (k3:Nat) (a9:Option Addr) (cb9:Nat) (T9:List Lst),J'=upd (mix ([16]++sq 110 15) Jo J) 110 (I6 (k3:Int))/\(k3<=(Qbc (tm2.map (·.1))).length)/\(T9=((Qbc (tm2.map (·.1))).take k3).map (tkL tm2))/\(T9.length<=k3)/\μ=(Qbc (tm2.map (·.1))).length-k3/\Own w no w' [blk b1 (((vc p.base.known)++[(.slice a1 p.base.ents.length c1:Value),(.slice a2 p.base.ticks.length c2:Value) ])++[(.slice a3 p.ops.length c3:Value) ]++(vc p.known)) 43,blk b3 (vc cut) 24,blk b5 ((vc vzero)++[(.slice none 0 0:Value),(.slice none 0 0:Value) ]) 38,blk b10 [.slice a8 l8.length cb8] 29,QgV mr12 (Value.int .u16) (Value.int .u32) tm2,row (.slice a7 ((L7.filter fun x=>!(fun x=>l8.any fun o=>QaZ o (Qbn x)) x).length) cb7) (sx46.1.map cec) 106 7,row (.slice a8 l8.length cb8) (l8.map oc) 98 23,blk b47 ((vc cut)++[(.slice a7 ((L7.filter fun x=>!(fun x=>l8.any fun o=>QaZ o (Qbn x)) x).length) cb7:Value),(.slice a9 T9.length cb9:Value) ]) 38,row (.slice x50.1 ((Qbc (tm2.map (·.1))).length) x50.2) ((Qbc (tm2.map (·.1))).map (ic .u16)) 32 1,row (.slice a9 T9.length cb9) (T9.map lsc) 102 2]) ?_ ?_
 ·exact ⟨_,_,0,none,0,[],Qai (Qao (ds:=([16]++sq 110 15)) (Agr.refl _ _)) rfl,(by omega),rfl,(Nat.le_refl _),rfl,hs⟩
 rintro μ J' w52 ⟨Jo,k3,a9,cb9,T9,rfl,hk3,hT9,hn9,rfl,hs⟩
 refine Qag (Qab (Qaa (QaS rfl rfl (Qaf (Qag (Qan (t:=decide ((k3:Int)<(((Qbc (tm2.map (·.1))).length:Nat):Int))) rfl (fun c53=>?_) (fun c53=>?_)))))))
 ·
  replace c53:=QQ1 c53
  refine Qap (Qag (Qam (Qag (Qab (Qaa (Qax QaO Qar.1 (hs.rd 8 rfl) rfl rfl (by omega) (by rw [QQ6];omega) (Qaa (QaU (j:=0) (V:=I7 (gd (Qbc (tm2.map (·.1))) k3)) k3 Qar (hs.rd 8 rfl) (QaW (by omega)) rfl rfl (by omega) (Qaa (Qad (V:=I7 (gd (Qbc (tm2.map (·.1))) k3)) rfl (Qaf (Qab (Qaa (Qae Qc5 rfl (Qaa (QaF (V:=.slice a9 T9.length cb9) Qgy hs 7 rfl rfl rfl (Qaa (Qac (V:=I7 (gd (Qbc (tm2.map (·.1))) k3)) rfl (Qaa (Qac (V:=.map (some mr12)) rfl (Qaa (Qac (V:=I7 (gd (Qbc (tm2.map (·.1))) k3)) rfl (Qaa (Qib (k:=gd (Qbc (tm2.map (·.1))) k3) (z:=0) Qh4 QnL Qt2 (hs.mapf 4 rfl) rfl rfl (Qaa (Qby (vs:=[(0,I7 (gd (Qbc (tm2.map (·.1))) k3)),(1,.int .u32 ((mget (gd (Qbc (tm2.map (·.1))) k3) tm2).getD 0))]) (cs:=lsc (⟨gd (Qbc (tm2.map (·.1))) k3,(mget (gd (Qbc (tm2.map (·.1))) k3) tm2).getD 0⟩:Lst)) QsK (rfl) rfl (Qaa (QeP (vals:=[.agg (lsc (⟨gd (Qbc (tm2.map (·.1))) k3,(mget (gd (Qbc (tm2.map (·.1))) k3) tm2).getD 0⟩:Lst)).toArray]) (ls:=List.map lsc ([(⟨gd (Qbc (tm2.map (·.1))) k3,(mget (gd (Qbc (tm2.map (·.1))) k3) tm2).getD 0⟩:Lst)]:List Lst)) QnU rfl rfl rfl (Qbi (enc:=lsc) (fun _=>rfl) _) (QaL QbF _) (QQ8 rfl) hs fun b54 w55 hs=>?_))))))))))))))))))))))))))))
  replace hs:Own w no w55 [blk b1 (((vc p.base.known)++[(.slice a1 p.base.ents.length c1:Value),(.slice a2 p.base.ticks.length c2:Value) ])++[(.slice a3 p.ops.length c3:Value) ]++(vc p.known)) 43,blk b3 (vc cut) 24,blk b5 ((vc vzero)++[(.slice none 0 0:Value),(.slice none 0 0:Value) ]) 38,blk b10 [.slice a8 l8.length cb8] 29,QgV mr12 (Value.int .u16) (Value.int .u32) tm2,row (.slice a7 ((L7.filter fun x=>!(fun x=>l8.any fun o=>QaZ o (Qbn x)) x).length) cb7) (sx46.1.map cec) 106 7,row (.slice a8 l8.length cb8) (l8.map oc) 98 23,blk b47 ((vc cut)++[(.slice a7 ((L7.filter fun x=>!(fun x=>l8.any fun o=>QaZ o (Qbn x)) x).length) cb7:Value),(.slice a9 T9.length cb9:Value) ]) 38,row (.slice x50.1 ((Qbc (tm2.map (·.1))).length) x50.2) ((Qbc (tm2.map (·.1))).map (ic .u16)) 32 1,row (.slice a9 T9.length cb9) (T9.map lsc) 102 2,row (.slice (some ⟨b54,0,none⟩) 1 1) ([(⟨gd (Qbc (tm2.map (·.1))) k3,(mget (gd (Qbc (tm2.map (·.1))) k3) tm2).getD 0⟩:Lst)].map lsc) 102 2]:=hs
  refine Qaa (QbY (ls':=(T9++[(⟨gd (Qbc (tm2.map (·.1))) k3,(mget (gd (Qbc (tm2.map (·.1))) k3) tm2).getD 0⟩:Lst)]).map lsc) (n:=(T9++[(⟨gd (Qbc (tm2.map (·.1))) k3,(mget (gd (Qbc (tm2.map (·.1))) k3) tm2).getD 0⟩:Lst)]).length) QnU hs 9 rfl rfl rfl (hs.rd 10 rfl) (QaL QbF _) (by simp only [QQ6,QQ7,List.length_cons,List.length_nil];omega) (by simp) (by simp) fun a56 c56 w57 hs=>(Qaa (Qae Qc5 rfl (Qaa (QcR (V:=.slice a56 ((T9++[(⟨gd (Qbc (tm2.map (·.1))) k3,(mget (gd (Qbc (tm2.map (·.1))) k3) tm2).getD 0⟩:Lst)]).length) c56) (cs':=(vc cut)++[(.slice a7 ((L7.filter fun x=>!(fun x=>l8.any fun o=>QaZ o (Qbn x)) x).length) cb7:Value),(.slice a56 ((T9++[(⟨gd (Qbc (tm2.map (·.1))) k3,(mget (gd (Qbc (tm2.map (·.1))) k3) tm2).getD 0⟩:Lst)]).length) c56:Value) ]) Qgy hs 7 rfl rfl rfl rfl (QQ8 rfl) rfl fun w58 hs=>(Qaf (Qab (Qaa (QaD (a:=(k3:Int)) (b:=1) (c:=((k3+1:Nat):Int)) rfl rfl (Qak (by omega) (by omega)) (Qaa (Qac (V:=I6 ((k3+1:Nat):Int)) rfl (Qaf ?_))))))))))))
  refine ⟨_,?_,_,k3+1,a56,c56,T9++[(⟨gd (Qbc (tm2.map (·.1))) k3,(mget (gd (Qbc (tm2.map (·.1))) k3) tm2).getD 0⟩:Lst)],Qai (Qao (ds:=([16]++sq 110 15)) (by repeat (first|exact Agr.refl _ _|refine Agr.upd ?_ rfl|refine Agr.mix ?_ rfl))) rfl,(by omega),(Qkw (f:=tkL tm2) hT9 (by omega)),(by simp only [QQ7,List.length_singleton];omega),rfl,hs.take 10⟩
  omega
 replace c53:=QQ2 c53
 refine QaH (Qag (Qab (Qaa (QaI (cs:=(vc cut)++[(.slice a7 ((L7.filter fun x=>!(fun x=>l8.any fun o=>QaZ o (Qbn x)) x).length) cb7:Value),(.slice a9 T9.length cb9:Value) ]) QcD hs 7 rfl rfl rfl (Qaa (Qcq (V:=.agg ((vc cut)++[(.slice a7 ((L7.filter fun x=>!(fun x=>l8.any fun o=>QaZ o (Qbn x)) x).length) cb7:Value),(.slice a9 T9.length cb9:Value) ]).toArray) (vs:=(vc cut)++[(.slice a7 ((L7.filter fun x=>!(fun x=>l8.any fun o=>QaZ o (Qbn x)) x).length) cb7:Value),(.slice a9 T9.length cb9:Value) ]) (cs':=(vc cut)++[(.slice a7 ((L7.filter fun x=>!(fun x=>l8.any fun o=>QaZ o (Qbn x)) x).length) cb7:Value),(.slice a9 T9.length cb9:Value) ]) QcD.1 hs 2 rfl rfl rfl rfl rfl (QQ8 rfl) (QbB (Qcd _) (Qat rfl (Qat rfl Qa9))) (Qay rfl) fun w59 hs=>?_))))))
 replace hs:Own w no w59 [blk b1 (((vc p.base.known)++[(.slice a1 p.base.ents.length c1:Value),(.slice a2 p.base.ticks.length c2:Value) ])++[(.slice a3 p.ops.length c3:Value) ]++(vc p.known)) 43,blk b3 (vc cut) 24,blk b5 ((vc cut)++[(.slice a7 ((L7.filter fun x=>!(fun x=>l8.any fun o=>QaZ o (Qbn x)) x).length) cb7:Value),(.slice a9 T9.length cb9:Value) ]) 38,blk b10 [.slice a8 l8.length cb8] 29,QgV mr12 (Value.int .u16) (Value.int .u32) tm2,row (.slice a7 ((L7.filter fun x=>!(fun x=>l8.any fun o=>QaZ o (Qbn x)) x).length) cb7) (sx46.1.map cec) 106 7,row (.slice a8 l8.length cb8) (l8.map oc) 98 23,blk b47 ((vc cut)++[(.slice a7 ((L7.filter fun x=>!(fun x=>l8.any fun o=>QaZ o (Qbn x)) x).length) cb7:Value),(.slice a9 T9.length cb9:Value) ]) 38,row (.slice x50.1 ((Qbc (tm2.map (·.1))).length) x50.2) ((Qbc (tm2.map (·.1))).map (ic .u16)) 32 1,row (.slice a9 T9.length cb9) (T9.map lsc) 102 2]:=hs
 refine Qaa (Qad (V:=I6 0) rfl (Qaf (Qaw ?_)))
 refine ⟨_,QcM (cs:=(vc cut)++[(.slice a7 ((L7.filter fun x=>!(fun x=>l8.any fun o=>QaZ o (Qbn x)) x).length) cb7:Value),(.slice a9 T9.length cb9:Value) ]) (V:=I6 0) Tryz.results12 QcD hs 2 rfl rfl rfl rfl,?_⟩
 have hmz:=c8
 have hTT:T9=(Qbc (tm2.map (·.1))).map (tkL tm2):=by rw [hT9,Qck (by omega)]
 have hX:=Qi0 hok hmz hu hL7 sx46.2 htm2 hTT
 have hml:=sx46.2.1.length_eq.symm
 rw [hX,hmz]
 rw [hml] at hs ⊢
 exact ⟨((a7,cb7),(a9,cb9)),rfl,hs.two 5 9 (by decide) rfl rfl,trivial⟩
end Tt
end Go.Proofs
namespace Go.Proofs
open Go Go.Vx Go.RowKit
namespace Tt
theorem QjZ (w:World) (a:Option Addr) (c:Nat) (l:List Opn) (o:Opn) (he:Qc1 o.dot) (hr:Rd w (.slice a l.length c) 23 (l.map oc)):Calls Tryz.prog 52 #[.slice a l.length c,.agg (oc o).toArray] w (fun e w'=>e = .returned (.bool (l.any fun x=>QaZ x o))/\Own w no w' []):=by
 refine Qaj (n:=18) Tryz.func52 rfl Tryz.ntmps52 rfl ?_
 have hs:=Own.start w
 have hn:=hr.sml
 refine Qag (Qab (Qaa (QaR (V:=.agg (oc o).toArray) (cs:=oc o) rfl rfl hs fun b1 w2 hs=>(Qaa (Qad (V:=.bool false) rfl (Qaf (Qag (Qag (Qab (Qaa (Qad (V:=I6 0) rfl (Qaf (Qam (QaA (fun J μ J' w'=>∃ (Jo:Env) (k:Nat),J'=upd (mix (sq 4 14) Jo J) 5 (I6 (k:Int))/\(k<=l.length)/\(∀ j:Nat,j<k->QaZ (gd l j) o=false)/\μ=l.length-k/\Own w no w' [blk b1 (oc o) 98]) ?_ ?_))))))))))))))
 ·exact ⟨_,_,0,Qai (Qao (ds:=(sq 4 14)) (Agr.refl _ _)) rfl,(by omega),(fun j hj=>absurd hj (Nat.not_lt_zero j)),rfl,hs⟩
 rintro μ J' w3 ⟨Jo,k,rfl,hk,hno,rfl,hs⟩
 refine Qag (Qag (Qab (Qaa (Qac (V:=I6 (k:Int)) rfl (Qaa (Qac (V:=.slice a l.length c) rfl (Qaa (QaX (n:=l.length) QdJ (Rd.own' hr hs) (by simp) rfl (Qaa (QaS rfl rfl (Qaf (Qan (t:=decide ((k:Int)<((l.length:Nat):Int))) rfl (fun c4=>?_) (fun c4=>?_)))))))))))))
 ·
  replace c4:=QQ1 c4
  refine Qap (Qag (Qam (Qag (QaJ HM [some 12,some 13,some 14,some 15,some 16,some 17] [] [0,0,3,7,0,31] [pv (.slice a l.length c),pv (I6 (k:Int)),pv (.pointer (some ⟨bkS (.slice a l.length c),ofS (.slice a l.length c)+(k:Int).toNat*23,none⟩)),pv (.agg (oc (gd l k)).toArray),pv (.agg (oc o).toArray),pv (.bool (QaZ (gd l k) o))] (fun _ _=>_) [5] (by kernel_rfl) hs ⟨?_,?_,?_,?_,?_,?_,trivial⟩ ?_))))
  ·exact oa [] fun D J w hs=>Qac (V:=.slice a l.length c) rfl (Zz hs)
  ·exact oa [] fun D J w hs=>Qac (V:=.int .i64 (k:Int)) rfl (Zz hs)
  ·exact oa [0,1] fun D J w hs=>Qax QdJ QbZ.1 (Rd.own' hr hs) rfl rfl (by omega) (by rw [QQ6];omega) (Zz hs)
  ·exact oa [2] fun D J w hs=>QaV (j:=0) (vs:=oc (gd l k)) k QbZ (Rd.own' hr hs) (QaW (by omega)) rfl rfl rfl (by omega) (Zz hs)
  ·exact oa [] fun D J w hs=>QaI (cs:=oc o) QbZ hs 0 rfl rfl rfl (Zz hs)
  ·exact oa [3,4] fun D J w hs=>Qau (vs:=[.agg (oc (gd l k)).toArray,.agg (oc o).toArray]) (V:=.bool (QaZ (gd l k) o)) Qu9 rfl rfl (QnM _ (gd l k) o (by assumption)) hs fun _ hs=>Zz hs
  rintro J1 w6 J2 hJ hs
  replace hJ:J2=upd (mix (sq 12 6) J1 _) 17 (.bool (QaZ (gd l k) o)):=hJ
  subst hJ
  refine Qan (t:=QaZ (gd l k) o) rfl (fun c7=>?_) (fun c7=>?_)
  ·
   refine Qag (Qab (Qaa (Qad (V:=.bool true) rfl (Qaf (Qaw ?_)))))
   refine ⟨_,Qaq (V:=.bool true) Tryz.results52 rfl,(Zr hs ?_)⟩
   exact congrArg Value.bool (Qti (p:=fun x=>QaZ x o) (k:=k) (by omega) c7).symm
  refine Qap (Qab (Qaa (Qac (V:=I6 (k:Int)) rfl (Qaa (QaD (a:=(k:Int)) (b:=1) (c:=((k+1:Nat):Int)) rfl rfl (Qak (by omega) (by omega)) (Qaa (Qad (V:=I6 ((k+1:Nat):Int)) rfl (Qaf ?_))))))))
  refine ⟨_,?_,_,k+1,Qai (Qao (ds:=(sq 4 14)) (by repeat (first|exact Agr.refl _ _|refine Agr.upd ?_ rfl|refine Agr.mix ?_ rfl))) rfl,(by omega),(Qca hno c7),rfl,hs.take 1⟩
  omega
 replace c4:=QQ2 c4
 refine QaH (Qag (Qab (Qaa (Qad (V:=.bool false) rfl (Qaf (Qaw ?_))))))
 refine ⟨_,Qaq (V:=.bool false) Tryz.results52 rfl,(Zr hs ?_)⟩
 exact congrArg Value.bool (Qn4 (p:=fun x=>QaZ x o) fun j hj=>hno j (by omega)).symm
end Tt
end Go.Proofs
namespace Go.Proofs
open Go Go.Vx Go.RowKit
namespace Tt
theorem QmU (w:World) (v:Vec) (a:Option Addr) (c:Nat) (l:List Opn) (hl:∀ o∈l,Qdk o) (hlen:l.length<=1000) (hr:Rd w (.slice a l.length c) 23 (l.map oc)):Calls Tryz.prog 35 #[.slice a l.length c,.agg (vc v).toArray] w (fun e w'=>∃ x:Option Addr × Nat,e = .returned (.slice x.1 (Qal l v).length x.2)/\Own w no w' [row (.slice x.1 (Qal l v).length x.2) ((Qal l v).map oc) 98 23]/\True):=by
 refine Qaj (n:=28) Tryz.func35 rfl Tryz.ntmps35 rfl ?_
 have hs:=Own.start w
 have hn:=hr.sml
 refine Qag (Qab (Qaa (QaR (V:=.agg (vc v).toArray) (cs:=vc v) rfl rfl hs fun b1 w2 hs=>(Qaa (Qad (V:=.slice none 0 0) rfl (Qaf (Qag (Qab (Qaa (Qad (V:=.slice none 0 0) rfl (Qaf (Qag (Qag (Qab (Qaa (Qad (V:=I6 0) rfl (Qaf (Qam ?_))))))))))))))))))
 replace hs:=hs.more (row (.slice none 0 0) (List.map oc []) 98 23) (Qbo _ _ _ _)
 refine QaA (fun J μ J' w'=>∃ (Jo:Env) (k:Nat) (an:Option Addr) (cn:Nat) (out:List Opn),J'=upd (upd (mix (sq 5 22) Jo J) 6 (I6 (k:Int))) 5 (.slice an out.length cn)/\(k<=l.length)/\(out.length<=k)/\(out=Qal (l.take k) v)/\μ=l.length-k/\Own w no w' [blk b1 (vc v) 24,row (.slice an out.length cn) (out.map oc) 98 23]) ?_ ?_
 ·exact ⟨_,_,0,none,0,[],Qai (Qai (Qao (ds:=(sq 5 22)) (Agr.refl _ _)) rfl) rfl,(by omega),(Nat.le_refl _),rfl,rfl,hs⟩
 rintro μ J' w3 ⟨Jo,k,an,cn,out,rfl,hk,hol,hout,rfl,hs⟩
 refine Qag (Qag (Qab (Qaa (Qac (V:=I6 (k:Int)) rfl (Qaa (Qac (V:=.slice a l.length c) rfl (Qaa (QaX (n:=l.length) QdJ (Rd.own' hr hs) (by simp) rfl (Qaa (QaS rfl rfl (Qaf (Qan (t:=decide ((k:Int)<((l.length:Nat):Int))) rfl (fun c4=>?_) (fun c4=>?_)))))))))))))
 ·
  replace c4:=QQ1 c4
  refine Qap (Qag (Qam (Qag ?_)))
  have hok:=hl _ (QbP (l:=l) (i:=k) (by omega))
  have hdk:=hok.1
  refine QaJ HM [some 13,some 14,some 15,some 16,some 17,some 18,some 19] [] [0,0,0,6,14,30,63] [pv (.agg (vc v).toArray),pv (.slice a l.length c),pv (I6 (k:Int)),pv (.pointer (some ⟨bkS (.slice a l.length c),ofS (.slice a l.length c)+(k:Int).toNat*23,none⟩)),pv (.pointer (some ⟨bkS (.slice a l.length c),ofS (.slice a l.length c)+(k:Int).toNat*23+0,none⟩)),pv (.agg (dc ((gd l k).dot)).toArray),pv (.bool (Qbz v ((gd l k).dot)))] (fun _ _=>_) [6] (by kernel_rfl) hs ⟨?_,?_,?_,?_,?_,?_,?_,trivial⟩ ?_
  ·exact oa [] fun D J w hs=>QaI (cs:=vc v) Qbt hs 0 rfl rfl rfl (Zz hs)
  ·exact oa [] fun D J w hs=>Qac (V:=.slice a l.length c) rfl (Zz hs)
  ·exact oa [] fun D J w hs=>Qac (V:=.int .i64 (k:Int)) rfl (Zz hs)
  ·exact oa [1,2] fun D J w hs=>Qax QdJ QbZ.1 (Rd.own' hr hs) rfl rfl (by omega) (by rw [QQ6];omega) (Zz hs)
  ·exact oa [3] fun D J w hs=>Qae Qb0 rfl (Zz hs)
  ·exact oa [4] fun D J w hs=>QaV (j:=0) (vs:=dc ((gd l k).dot)) k QcI (Rd.own' hr hs) (QaW (by omega)) rfl rfl rfl (by omega) (Zz hs)
  ·exact oa [0,5] fun D J w hs=>Qau (vs:=[.agg (vc v).toArray,.agg (dc ((gd l k).dot)).toArray]) (V:=.bool (Qbz v ((gd l k).dot))) QoN rfl rfl (QhN _ v ((gd l k).dot) (by first|assumption|exact Qdf (by omega) (by omega) (by omega) (by omega))) hs fun _ hs=>Zz hs
  rintro J1 w6 J2 hJ hs
  replace hJ:J2=upd (mix (sq 13 7) J1 _) 19 (.bool (Qbz v ((gd l k).dot))):=hJ
  subst hJ
  refine Qan (t:=Qbz v ((gd l k).dot)) rfl (fun c7=>?_) (fun c7=>?_)
  ·
   refine Qab (Qaa (Qac (V:=.slice an out.length cn) rfl (Qaa (Qac (V:=.slice a l.length c) rfl (Qaa (Qac (V:=I6 (k:Int)) rfl (Qaa (Qax QdJ QbZ.1 (Rd.own' hr hs) rfl rfl (by omega) (by rw [QQ6];omega) (Qaa (QaV (j:=0) (vs:=oc (gd l k)) k QbZ (Rd.own' hr hs) (QaW (by omega)) rfl rfl rfl (by omega) (Qaa (QeP (vals:=[.agg (oc (gd l k)).toArray]) (ls:=List.map oc ([gd l k]:List Opn)) Ql5 rfl rfl rfl (Qbi (enc:=oc) (fun _=>rfl) _) (QaL Qep _) (QQ8 rfl) hs fun b8 w9 hs=>(Qaa (QbY (ls':=(out++[gd l k]).map oc) (n:=(out++[gd l k]).length) Ql5 hs 1 rfl rfl rfl (hs.rd 2 rfl) (QaL Qep _) (by simp only [QQ6,QQ7,List.length_cons,List.length_nil];omega) (by simp) (by simp) fun a10 c10 w11 hs=>(Qaa (Qad (V:=.slice a10 ((out++[gd l k]).length) c10) rfl (Qaf (Qab (Qaa (Qac (V:=I6 (k:Int)) rfl (Qaa (QaD (a:=(k:Int)) (b:=1) (c:=(k:Int)+1) rfl rfl (QbK (by omega) (by omega)) (Qaa (Qad (V:=I6 ((k:Int)+1)) rfl (Qaf ?_)))))))))))))))))))))))))
   refine ⟨_,?_,_,k+1,a10,c10,out++[gd l k],Qai (Qai (Qao (ds:=(sq 5 22)) (by repeat (first|exact Agr.refl _ _|refine Agr.upd ?_ rfl|refine Agr.mix ?_ rfl))) rfl) rfl,(by omega),(by first|omega|(rw [QQ7,List.length_singleton];omega)),(Qgs hout (by omega) c7),rfl,hs.take 2⟩
   omega
  refine Qap (Qab (Qaa (Qac (V:=I6 (k:Int)) rfl (Qaa (QaD (a:=(k:Int)) (b:=1) (c:=(k:Int)+1) rfl rfl (QbK (by omega) (by omega)) (Qaa (Qad (V:=I6 ((k:Int)+1)) rfl (Qaf ?_))))))))
  refine ⟨_,?_,_,k+1,an,cn,out,Qai (Qai (Qao (ds:=(sq 5 22)) (by repeat (first|exact Agr.refl _ _|refine Agr.upd ?_ rfl|refine Agr.mix ?_ rfl))) rfl) rfl,(by omega),(by first|omega|(rw [QQ7,List.length_singleton];omega)),(Qj5 hout (by omega) c7),rfl,hs.take 2⟩
  omega
 replace c4:=QQ2 c4
 refine QaH (Qag (Qab (Qaa (Qac (V:=.slice an out.length cn) rfl (Qaa (Qad (V:=.slice an out.length cn) rfl (Qaf (Qaw ?_))))))))
 refine ⟨_,Qaq (V:=.slice an out.length cn) Tryz.results35 rfl,?_⟩
 have hX:out=Qal l v:=by rw [hout,Qck (by omega)]
 rw [hX] at hs ⊢
 exact ⟨(an,cn),rfl,hs.only 1 rfl,trivial⟩
end Tt
end Go.Proofs
namespace Go.Proofs
open Go Go.Vx Go.RowKit
namespace Tt
theorem Qry (w:World) (a:Option Addr) (c:Nat) (l:List Cen) (y:Cen) (hlen:l.length<=10000) (hr:Rd w (.slice a l.length c) 7 (l.map cec)):Calls Tryz.prog 56 #[.slice a l.length c,.agg (cec y).toArray] w (fun e w'=>∃ x:Option Addr × Nat,e = .returned (.slice x.1 (QdC y l).length x.2)/\Own w no w' [row (.slice x.1 (QdC y l).length x.2) ((QdC y l).map cec) 119 7]/\True):=by
 refine Qaj (n:=42) Tryz.func56 rfl Tryz.ntmps56 rfl ?_
 have hs:=Own.start w
 refine Qag (Qab (Qaa (QaR (V:=.agg (cec y).toArray) (cs:=cec y) rfl rfl hs fun b1 w2 hs=>(Qaa (Qad (V:=.slice none 0 0) rfl (Qaf (Qag (Qab (Qaa (Qad (V:=.slice none 0 0) rfl (Qaf (Qag (Qab (Qaa (Qad (V:=.bool false) rfl (Qaf (Qag (Qag (Qab (Qaa (Qad (V:=I6 0) rfl (Qaf (Qam ?_)))))))))))))))))))))))
 replace hs:=hs.more (row (.slice none 0 0) (List.map cec []) 119 7) (Qbo _ _ _ _)
 refine QaA (fun J μ J' w'=>∃ (Jo:Env) (k:Nat) (an:Option Addr) (cn:Nat) (out:List Cen) (dn:Bool),J'=upd (upd (upd (mix (sq 5 30) Jo J) 7 (I6 (k:Int))) 5 (.slice an out.length cn)) 6 (.bool dn)/\(k<=l.length)/\(out.length<=2*k)/\(QdC y l=out++cond dn (l.drop k) (QdC y (l.drop k)))/\μ=l.length-k/\Own w no w' [blk b1 (cec y) 119,row (.slice an out.length cn) (out.map cec) 119 7]) ?_ ?_
 ·exact ⟨_,_,0,none,0,[],false,Qai (Qai (Qai (Qao (ds:=(sq 5 30)) (Agr.refl _ _)) rfl) rfl) rfl,(by omega),(Nat.zero_le _),rfl,rfl,hs⟩
 rintro μ J' w3 ⟨Jo,k,an,cn,out,dn,rfl,hk,hol,hput,rfl,hs⟩
 refine Qag (Qag (Qab (Qaa (Qac (V:=I6 (k:Int)) rfl (Qaa (Qac (V:=.slice a l.length c) rfl (Qaa (QaX (n:=l.length) Qcv (Rd.own' hr hs) (by simp) rfl (Qaa (QaS rfl rfl (Qaf (Qan (t:=decide ((k:Int)<((l.length:Nat):Int))) rfl (fun c4=>?_) (fun c4=>?_)))))))))))))
 ·
  replace c4:=QQ1 c4
  refine Qap (Qag (Qam (Qag (Qag (QaJ HM [some 14,some 15,some 16,some 17,some 18,some 19,some 20,some 21,some 22,some 23] [] [0,1,3,7,7,7,55,119,255,511] [pv (.bool dn),pv (.bool (!dn)),pv (.bool (!dn)),pg ((!dn) == true) (.agg (cec y).toArray),pg ((!dn) == true) (.slice a l.length c),pg ((!dn) == true) (I6 (k:Int)),pg ((!dn) == true) (.pointer (some ⟨bkS (.slice a l.length c),ofS (.slice a l.length c)+(k:Int).toNat*7,none⟩)),pg ((!dn) == true) (.agg (cec (gd l k)).toArray),pg ((!dn) == true) (.bool (Qbl y (gd l k))),pv (.bool ((!dn)&&(Qbl y (gd l k))))] (fun _ _=>_) [9] (by kernel_rfl) hs ⟨?_,?_,?_,?_,?_,?_,?_,?_,?_,?_,trivial⟩ ?_)))))
  ·exact oa [] fun D J w hs=>Qac (V:=.bool dn) rfl (Zz hs)
  ·exact oa [0] fun D J w hs=>Qbx rfl (Zz hs)
  ·exact oa [1] fun D J w hs=>Qac (V:=.bool (!dn)) rfl (Zz hs)
  ·exact og [2] fun D J w hG hs=>QaI (cs:=cec y) Qbp hs 0 rfl rfl rfl (Zz hs)
  ·exact og [2] fun D J w hG hs=>Qac (V:=.slice a l.length c) rfl (Zz hs)
  ·exact og [2] fun D J w hG hs=>Qac (V:=.int .i64 (k:Int)) rfl (Zz hs)
  ·exact oy [2,4,5] [4,5] fun D J w hG hs=>Qax Qcv Qbp.1 (Rd.own' hr hs) rfl rfl (by omega) (by rw [QQ6];omega) (Zz hs)
  ·exact oy [2,6] [6] fun D J w hG hs=>QaV (j:=0) (vs:=cec (gd l k)) k Qbp (Rd.own' hr hs) (QaW (by omega)) rfl rfl rfl (by omega) (Zz hs)
  ·exact oy [2,3,7] [3,7] fun D J w hG hs=>Qau (vs:=[.agg (cec y).toArray,.agg (cec (gd l k)).toArray]) (V:=.bool (Qbl y (gd l k))) Qsx rfl rfl (Qkr _ y (gd l k)) hs fun _ hs=>Zz hs
  ·exact oa [2,8] fun D J w hs=>Qa7 (h':=Qbl y (gd l k)) rfl rfl rfl (Zz hs)
  rintro J1 w6 J2 hJ hs
  replace hJ:J2=upd (mix (sq 14 10) J1 _) 23 (.bool ((!dn)&&(Qbl y (gd l k)))):=hJ
  subst hJ
  refine Qan (t:=(!dn)&&(Qbl y (gd l k))) rfl (fun c7=>?_) (fun c7=>?_)
  ·
   have c7r:=QbG c7
   replace c7:=QbC c7
   replace c7:=Qbs c7
   refine Qag (Qab (Qaa (Qac (V:=.slice an out.length cn) rfl (Qaa (QaI (cs:=cec y) Qbp hs 0 rfl rfl rfl (Qaa (QeP (vals:=[.agg (cec y).toArray]) (ls:=List.map cec ([y]:List Cen)) QfH rfl rfl rfl (Qbi (enc:=cec) (fun _=>rfl) _) (QaL Qa6 _) (QQ8 rfl) hs fun b8 w9 hs=>(Qaa (QbY (ls':=(out++[y]).map cec) (n:=(out++[y]).length) QfH hs 1 rfl rfl rfl (hs.rd 2 rfl) (QaL Qa6 _) (by simp only [QQ6,QQ7,List.length_cons,List.length_nil];omega) (by simp) (by simp) fun a10 c10 w11 hs=>(Qaa (Qad (V:=.slice a10 ((out++[y]).length) c10) rfl (Qaf (Qab (Qaa (Qad (V:=.bool true) rfl (Qaf (Qab (Qaa (Qac (V:=.slice a10 ((out++[y]).length) c10) rfl (Qaa (Qac (V:=.slice a l.length c) rfl (Qaa (Qac (V:=I6 (k:Int)) rfl (Qaa (Qax Qcv Qbp.1 (Rd.own' hr hs) rfl rfl (by omega) (by rw [QQ6];omega) (Qaa (QaV (j:=0) (vs:=cec (gd l k)) k Qbp (Rd.own' hr hs) (QaW (by omega)) rfl rfl rfl (by omega) (Qaa (QeP (vals:=[.agg (cec (gd l k)).toArray]) (ls:=List.map cec ([gd l k]:List Cen)) QfH rfl rfl rfl (Qbi (enc:=cec) (fun _=>rfl) _) (QaL Qa6 _) (QQ8 rfl) hs fun b12 w13 hs=>?_)))))))))))))))))))))))))))))
   replace hs:Own w no w13 [blk b1 (cec y) 119,row (.slice a10 ((out++[y]).length) c10) ((out++[y]).map cec) 119 7,row (.slice (some ⟨b8,0,none⟩) 1 1) ([y].map cec) 119 7,row (.slice (some ⟨b12,0,none⟩) 1 1) ([gd l k].map cec) 119 7]:=hs
   refine Qaa (QbY (ls':=((out++[y])++[gd l k]).map cec) (n:=((out++[y])++[gd l k]).length) QfH hs 1 rfl rfl rfl (hs.rd 3 rfl) (QaL Qa6 _) (by simp only [QQ6,QQ7,List.length_cons,List.length_nil];omega) (by simp) (by simp) fun a14 c14 w15 hs=>(Qaa (Qad (V:=.slice a14 (((out++[y])++[gd l k]).length) c14) rfl (Qaf (Qab (Qaa (Qac (V:=I6 (k:Int)) rfl (Qaa (QaD (a:=(k:Int)) (b:=1) (c:=((k+1:Nat):Int)) rfl rfl (Qak (by omega) (by omega)) (Qaa (Qad (V:=I6 ((k+1:Nat):Int)) rfl (Qaf ?_))))))))))))
   refine ⟨_,?_,_,k+1,a14,c14,(out++[y])++[gd l k],true,Qai (Qai (Qai (Qao (ds:=(sq 5 30)) (by repeat (first|exact Agr.refl _ _|refine Agr.upd ?_ rfl|refine Agr.mix ?_ rfl))) rfl) rfl) rfl,(by omega),(by simp only [QQ7,List.length_singleton];omega),(QrW hput (by omega) c7 c7r),rfl,hs.take 2⟩
   omega
  refine Qap (Qab (Qaa (Qac (V:=.slice an out.length cn) rfl (Qaa (Qac (V:=.slice a l.length c) rfl (Qaa (Qac (V:=I6 (k:Int)) rfl (Qaa (Qax Qcv Qbp.1 (Rd.own' hr hs) rfl rfl (by omega) (by rw [QQ6];omega) (Qaa (QaV (j:=0) (vs:=cec (gd l k)) k Qbp (Rd.own' hr hs) (QaW (by omega)) rfl rfl rfl (by omega) (Qaa (QeP (vals:=[.agg (cec (gd l k)).toArray]) (ls:=List.map cec ([gd l k]:List Cen)) QfH rfl rfl rfl (Qbi (enc:=cec) (fun _=>rfl) _) (QaL Qa6 _) (QQ8 rfl) hs fun b16 w17 hs=>(Qaa (QbY (ls':=(out++[gd l k]).map cec) (n:=(out++[gd l k]).length) QfH hs 1 rfl rfl rfl (hs.rd 2 rfl) (QaL Qa6 _) (by simp only [QQ6,QQ7,List.length_cons,List.length_nil];omega) (by simp) (by simp) fun a18 c18 w19 hs=>(Qaa (Qad (V:=.slice a18 ((out++[gd l k]).length) c18) rfl (Qaf (Qab (Qaa (Qac (V:=I6 (k:Int)) rfl (Qaa (QaD (a:=(k:Int)) (b:=1) (c:=((k+1:Nat):Int)) rfl rfl (Qak (by omega) (by omega)) (Qaa (Qad (V:=I6 ((k+1:Nat):Int)) rfl (Qaf ?_))))))))))))))))))))))))))
  refine ⟨_,?_,_,k+1,a18,c18,out++[gd l k],dn,Qai (Qai (Qai (Qao (ds:=(sq 5 30)) (by repeat (first|exact Agr.refl _ _|refine Agr.upd ?_ rfl|refine Agr.mix ?_ rfl))) rfl) rfl) rfl,(by omega),(by simp only [QQ7,List.length_singleton];omega),(Qtu hput (by omega) c7),rfl,hs.take 2⟩
  omega
 replace c4:=QQ2 c4
 refine QaH (Qag (Qag (Qab (Qaa (Qac (V:=.bool dn) rfl (Qaa (Qbx rfl (Qaf (Qan (t:=!dn) rfl (fun c20=>?_) (fun c20=>?_))))))))))
 ·
  replace c20:=Qbs c20
  refine Qab (Qaa (Qac (V:=.slice an out.length cn) rfl (Qaa (QaI (cs:=cec y) Qbp hs 0 rfl rfl rfl (Qaa (QeP (vals:=[.agg (cec y).toArray]) (ls:=List.map cec ([y]:List Cen)) QfH rfl rfl rfl (Qbi (enc:=cec) (fun _=>rfl) _) (QaL Qa6 _) (QQ8 rfl) hs fun b21 w22 hs=>(Qaa (QbY (ls':=(out++[y]).map cec) (n:=(out++[y]).length) QfH hs 1 rfl rfl rfl (hs.rd 2 rfl) (QaL Qa6 _) (by simp only [QQ6,QQ7,List.length_cons,List.length_nil];omega) (by simp) (by simp) fun a23 c23 w24 hs=>(Qaa (Qad (V:=.slice a23 ((out++[y]).length) c23) rfl (Qaf (Qag (Qab (Qaa (Qac (V:=.slice a23 ((out++[y]).length) c23) rfl (Qaa (Qad (V:=.slice a23 ((out++[y]).length) c23) rfl (Qaf (Qaw ?_)))))))))))))))))))
  refine ⟨_,Qaq (V:=.slice a23 ((out++[y]).length) c23) Tryz.results56 rfl,?_⟩
  have hX:=(QmM hput (by omega)).2 c20
  rw [← hX] at hs ⊢
  exact ⟨(a23,c23),rfl,hs.only 1 rfl,trivial⟩
 replace c20:=Qbd c20
 refine Qap (Qag (Qab (Qaa (Qac (V:=.slice an out.length cn) rfl (Qaa (Qad (V:=.slice an out.length cn) rfl (Qaf (Qaw ?_))))))))
 refine ⟨_,Qaq (V:=.slice an out.length cn) Tryz.results56 rfl,?_⟩
 have hX:=(QmM hput (by omega)).1 c20
 rw [← hX] at hs ⊢
 exact ⟨(an,cn),rfl,hs.only 1 rfl,trivial⟩
theorem Qk0 (w:World) (a:Option Addr) (ca:Nat) (l:List Lst) (c t:Int) (hlen:l.length<=10000) (hT:QdQ l) (hr:Rd w (.slice a l.length ca) 2 (l.map lsc)):Calls Tryz.prog 54 #[.slice a l.length ca,.int .u16 c,.int .u32 t] w (fun e w'=>∃ x:Option Addr × Nat,e = .returned (.slice x.1 (Qc7 c t l).length x.2)/\Own w no w' [row (.slice x.1 (Qc7 c t l).length x.2) ((Qc7 c t l).map lsc) 125 2]/\True):=by
 refine Qaj (n:=57) Tryz.func54 rfl Tryz.ntmps54 rfl ?_
 have hs:=Own.start w
 refine Qag (Qab (Qaa (Qad (V:=.slice none 0 0) rfl (Qaf (Qag (Qab (Qaa (Qad (V:=.slice none 0 0) rfl (Qaf (Qag (Qab (Qaa (Qad (V:=.bool false) rfl (Qaf (Qag (Qag (Qab (Qaa (Qad (V:=I6 0) rfl (Qaf (Qam ?_)))))))))))))))))))))
 replace hs:=hs.more (row (.slice none 0 0) (List.map lsc []) 125 2) (Qbo _ _ _ _)
 refine QaA (fun J μ J' w'=>∃ (Jo:Env) (k:Nat) (an:Option Addr) (cn:Nat) (out:List Lst) (dn:Bool),J'=upd (upd (upd (mix (sq 7 41) Jo J) 9 (I6 (k:Int))) 7 (.slice an out.length cn)) 8 (.bool dn)/\(k<=l.length)/\(out.length<=2*k)/\(TkI l out (Qc7 c t l) c t dn k)/\μ=l.length-k/\Own w no w' [row (.slice an out.length cn) (out.map lsc) 125 2]) ?_ ?_
 ·exact ⟨_,_,0,none,0,[],false,Qai (Qai (Qai (Qao (ds:=(sq 7 41)) (Agr.refl _ _)) rfl) rfl) rfl,(by omega),(Nat.zero_le _),(⟨rfl,fun h=>nomatch h⟩),rfl,hs⟩
 rintro μ J' w1 ⟨Jo,k,an,cn,out,dn,rfl,hk,hol,htk,rfl,hs⟩
 refine Qag (Qag (Qab (Qaa (Qac (V:=I6 (k:Int)) rfl (Qaa (Qac (V:=.slice a l.length ca) rfl (Qaa (QaX (n:=l.length) QdU (Rd.own' hr hs) (by simp) rfl (Qaa (QaS rfl rfl (Qaf (Qan (t:=decide ((k:Int)<((l.length:Nat):Int))) rfl (fun c2=>?_) (fun c2=>?_)))))))))))))
 ·
  replace c2:=QQ1 c2
  refine Qap (Qag (Qam (Qag (Qab (Qaa (Qac (V:=.slice a l.length ca) rfl (Qaa (Qac (V:=I6 (k:Int)) rfl (Qaa (Qax QdU Qcu.1 (Rd.own' hr hs) rfl rfl (by omega) (by rw [QQ6];omega) (Qaa (QaV (j:=0) (vs:=lsc (gd l k)) k Qcu (Rd.own' hr hs) (QaW (by omega)) rfl rfl rfl (by omega) (Qaa (QaK (cs:=lsc (⟨0,0⟩:Lst)) QpA rfl hs fun b3 w4 hs=>(Qaa (Qcq (V:=.agg (lsc (gd l k)).toArray) (vs:=lsc (gd l k)) (cs':=lsc (gd l k)) Qcu.1 hs 1 rfl rfl rfl rfl rfl (QQ8 rfl) (QbF _) (Qay rfl) fun w5 hs=>(Qaf (Qag (Qag (Qab (Qaa (Qae QeV rfl (Qaa (QaF (V:=I7 ((gd l k).cart)) Qar hs 1 rfl rfl rfl (Qaa (Qac (V:=I7 c) rfl (Qaa (QaT rfl rfl (Qaf (Qan (t:=decide ((gd l k).cart=c)) rfl (fun c6=>?_) (fun c6=>?_)))))))))))))))))))))))))))))))
  ·
   replace c6:=QQ1 c6
   refine Qag (Qab (Qaa (Qae QfT rfl (Qaa (QaF (V:=.int .u32 ((gd l k).tick)) Qa8 hs 1 rfl rfl rfl (Qaa (Qac (V:=.int .u32 t) rfl (Qaa (Qrp rfl rfl (Qaa (Qae QfT rfl (Qaa (QcR (V:=.int .u32 (max ((gd l k).tick) t)) (cs':=lsc (⟨(gd l k).cart,max ((gd l k).tick) t⟩:Lst)) Qa8 hs 1 rfl rfl rfl rfl (QQ8 rfl) rfl fun w7 hs=>(Qaf (Qab (Qaa (Qad (V:=.bool true) rfl (Qaf (Qag (Qag (Qbm [some 30,some 31,some 32,some 33,some 34,some 35,some 36,some 37] [] [0,1,3,7,15,7,63,127] [pv (.bool true),pv (.bool false),pv (.bool false),pg false (.bool true),pg false (.bool true),pg false (.bool true),pg false (.bool true),pv (.bool false)] (fun _ _=>_) [7] (by kernel_rfl) hs ⟨?_,?_,?_,?_,?_,?_,?_,?_,trivial⟩ ?_)))))))))))))))))))))
   ·exact oa [] fun D J w hs=>Qac (V:=.bool true) rfl (Zz hs)
   ·exact oa [0] fun D J w hs=>Qbx rfl (Zz hs)
   ·exact oa [1] fun D J w hs=>Qac (V:=.bool false) rfl (Zz hs)
   ·exact obg [] [] false rfl (fun _=>rfl) rfl (fun _ _ _ _ h=>h) (fun _ _ _ h=>nomatch h)
   ·exact obg [] [] false rfl (fun _=>rfl) rfl (fun _ _ _ _ h=>h) (fun _ _ _ h=>nomatch h)
   ·exact obg [] [] false rfl (fun _=>rfl) rfl (fun _ _ _ _ h=>h) (fun _ _ _ h=>nomatch h)
   ·exact obg [] [] false rfl (fun _=>rfl) rfl (fun _ _ _ _ h=>h) (fun _ _ _ h=>nomatch h)
   ·exact oa [2] fun D J w hs=>Qcy (V:=.bool false) rfl rfl (Zz hs)
   rintro J1 w8 J2 hJ hs
   replace hJ:J2=upd (mix (sq 30 8) J1 _) 37 (.bool false):=hJ
   subst hJ
   refine Qcw rfl ?_
   refine Qap (Qab (Qaa (Qac (V:=.slice an out.length cn) rfl (Qaa (QaI (cs:=lsc (⟨(gd l k).cart,max ((gd l k).tick) t⟩:Lst)) Qcu hs 1 rfl rfl rfl (Qaa (QeP (vals:=[.agg (lsc (⟨(gd l k).cart,max ((gd l k).tick) t⟩:Lst)).toArray]) (ls:=List.map lsc ([(⟨(gd l k).cart,max ((gd l k).tick) t⟩:Lst)]:List Lst)) QfG rfl rfl rfl (Qbi (enc:=lsc) (fun _=>rfl) _) (QaL QbF _) (QQ8 rfl) hs fun b9 w10 hs=>?_)))))))
   replace hs:Own w no w10 [row (.slice an out.length cn) (out.map lsc) 125 2,blk b3 (lsc (⟨(gd l k).cart,max ((gd l k).tick) t⟩:Lst)) 125,row (.slice (some ⟨b9,0,none⟩) 1 1) ([(⟨(gd l k).cart,max ((gd l k).tick) t⟩:Lst)].map lsc) 125 2]:=hs
   refine Qaa (QbY (ls':=(out++[(⟨(gd l k).cart,max ((gd l k).tick) t⟩:Lst)]).map lsc) (n:=(out++[(⟨(gd l k).cart,max ((gd l k).tick) t⟩:Lst)]).length) QfG hs 0 rfl rfl rfl (hs.rd 2 rfl) (QaL QbF _) (by simp only [QQ6,QQ7,List.length_cons,List.length_nil];omega) (by simp) (by simp) fun a11 c11 w12 hs=>(Qaa (Qad (V:=.slice a11 ((out++[(⟨(gd l k).cart,max ((gd l k).tick) t⟩:Lst)]).length) c11) rfl (Qaf (Qab (Qaa (Qac (V:=I6 (k:Int)) rfl (Qaa (QaD (a:=(k:Int)) (b:=1) (c:=((k+1:Nat):Int)) rfl rfl (Qak (by omega) (by omega)) (Qaa (Qad (V:=I6 ((k+1:Nat):Int)) rfl (Qaf ?_))))))))))))
   refine ⟨_,?_,_,k+1,a11,c11,out++[(⟨(gd l k).cart,max ((gd l k).tick) t⟩:Lst)],true,Qai (Qai (Qai (Qao (ds:=(sq 7 41)) (by repeat (first|exact Agr.refl _ _|refine Agr.upd ?_ rfl|refine Agr.mix ?_ rfl))) rfl) rfl) rfl,(by omega),(by simp only [QQ7,List.length_singleton];omega),(Qvj htk hT (by omega) c6),rfl,hs.take 1⟩
   omega
  replace c6:=QQ2 c6
  refine Qap (Qag (Qag (Qbm [some 30,some 31,some 32,some 33,some 34,some 35,some 36,some 37] [] [0,1,3,7,15,7,63,127] [pv (.bool dn),pv (.bool (!dn)),pv (.bool (!dn)),pg ((!dn) == true) (Pq b3 (0+0)),pg ((!dn) == true) (I7 ((gd l k).cart)),pg ((!dn) == true) (I7 c),pg ((!dn) == true) (.bool (decide (c<(gd l k).cart))),pv (.bool ((!dn)&&(decide (c<(gd l k).cart))))] (fun _ _=>_) [7] (by kernel_rfl) hs ⟨?_,?_,?_,?_,?_,?_,?_,?_,trivial⟩ ?_)))
  ·exact oa [] fun D J w hs=>Qac (V:=.bool dn) rfl (Zz hs)
  ·exact oa [0] fun D J w hs=>Qbx rfl (Zz hs)
  ·exact oa [1] fun D J w hs=>Qac (V:=.bool (!dn)) rfl (Zz hs)
  ·exact og [2] fun D J w hG hs=>Qae QeV rfl (Zz hs)
  ·exact oy [2,3] [3] fun D J w hG hs=>QaF (V:=.int .u16 ((gd l k).cart)) Qar hs 1 rfl rfl rfl (Zz hs)
  ·exact og [2] fun D J w hG hs=>Qac (V:=.int .u16 c) rfl (Zz hs)
  ·exact oy [2,4,5] [4,5] fun D J w hG hs=>QbW rfl rfl (Zz hs)
  ·exact oa [2,6] fun D J w hs=>Qa7 (h':=decide (c<(gd l k).cart)) rfl rfl rfl (Zz hs)
  rintro J1 w13 J2 hJ hs
  replace hJ:J2=upd (mix (sq 30 8) J1 _) 37 (.bool ((!dn)&&(decide (c<(gd l k).cart)))):=hJ
  subst hJ
  refine Qan (t:=(!dn)&&(decide (c<(gd l k).cart))) rfl (fun c14=>?_) (fun c14=>?_)
  ·
   have c14r:=QbG c14
   replace c14:=QbC c14
   replace c14:=Qbs c14
   replace c14r:=QQ1 c14r
   refine Qag (Qab (Qaa (Qac (V:=.slice an out.length cn) rfl (Qaa (Qac (V:=I7 c) rfl (Qaa (Qac (V:=.int .u32 t) rfl (Qaa (Qby (vs:=[(0,I7 c),(1,.int .u32 t)]) (cs:=lsc (⟨c,t⟩:Lst)) QpL (rfl) rfl (Qaa (QeP (vals:=[.agg (lsc (⟨c,t⟩:Lst)).toArray]) (ls:=List.map lsc ([(⟨c,t⟩:Lst)]:List Lst)) QfG rfl rfl rfl (Qbi (enc:=lsc) (fun _=>rfl) _) (QaL QbF _) (QQ8 rfl) hs fun b15 w16 hs=>(Qaa (QbY (ls':=(out++[(⟨c,t⟩:Lst)]).map lsc) (n:=(out++[(⟨c,t⟩:Lst)]).length) QfG hs 0 rfl rfl rfl (hs.rd 2 rfl) (QaL QbF _) (by simp only [QQ6,QQ7,List.length_cons,List.length_nil];omega) (by simp) (by simp) fun a17 c17 w18 hs=>?_)))))))))))))
   replace hs:Own w no w18 [row (.slice a17 ((out++[(⟨c,t⟩:Lst)]).length) c17) ((out++[(⟨c,t⟩:Lst)]).map lsc) 125 2,blk b3 (lsc (gd l k)) 125,row (.slice (some ⟨b15,0,none⟩) 1 1) ([(⟨c,t⟩:Lst)].map lsc) 125 2]:=hs
   refine Qaa (Qad (V:=.slice a17 ((out++[(⟨c,t⟩:Lst)]).length) c17) rfl (Qaf (Qab (Qaa (Qad (V:=.bool true) rfl (Qaf (Qab (Qaa (Qac (V:=.slice a17 ((out++[(⟨c,t⟩:Lst)]).length) c17) rfl (Qaa (QaI (cs:=lsc (gd l k)) Qcu hs 1 rfl rfl rfl (Qaa (QeP (vals:=[.agg (lsc (gd l k)).toArray]) (ls:=List.map lsc ([gd l k]:List Lst)) QfG rfl rfl rfl (Qbi (enc:=lsc) (fun _=>rfl) _) (QaL QbF _) (QQ8 rfl) hs fun b19 w20 hs=>(Qaa (QbY (ls':=((out++[(⟨c,t⟩:Lst)])++[gd l k]).map lsc) (n:=((out++[(⟨c,t⟩:Lst)])++[gd l k]).length) QfG hs 0 rfl rfl rfl (hs.rd 3 rfl) (QaL QbF _) (by simp only [QQ6,QQ7,List.length_cons,List.length_nil];omega) (by simp) (by simp) fun a21 c21 w22 hs=>(Qaa (Qad (V:=.slice a21 (((out++[(⟨c,t⟩:Lst)])++[gd l k]).length) c21) rfl (Qaf (Qab (Qaa (Qac (V:=I6 (k:Int)) rfl (Qaa (QaD (a:=(k:Int)) (b:=1) (c:=((k+1:Nat):Int)) rfl rfl (Qak (by omega) (by omega)) (Qaa (Qad (V:=I6 ((k+1:Nat):Int)) rfl (Qaf ?_))))))))))))))))))))))))))
   refine ⟨_,?_,_,k+1,a21,c21,(out++[(⟨c,t⟩:Lst)])++[gd l k],true,Qai (Qai (Qai (Qao (ds:=(sq 7 41)) (by repeat (first|exact Agr.refl _ _|refine Agr.upd ?_ rfl|refine Agr.mix ?_ rfl))) rfl) rfl) rfl,(by omega),(by simp only [QQ7,List.length_singleton];omega),(QsI htk hT (by omega) c6 c14 c14r),rfl,hs.take 1⟩
   omega
  refine Qap (Qab (Qaa (Qac (V:=.slice an out.length cn) rfl (Qaa (QaI (cs:=lsc (gd l k)) Qcu hs 1 rfl rfl rfl (Qaa (QeP (vals:=[.agg (lsc (gd l k)).toArray]) (ls:=List.map lsc ([gd l k]:List Lst)) QfG rfl rfl rfl (Qbi (enc:=lsc) (fun _=>rfl) _) (QaL QbF _) (QQ8 rfl) hs fun b23 w24 hs=>(Qaa (QbY (ls':=(out++[gd l k]).map lsc) (n:=(out++[gd l k]).length) QfG hs 0 rfl rfl rfl (hs.rd 2 rfl) (QaL QbF _) (by simp only [QQ6,QQ7,List.length_cons,List.length_nil];omega) (by simp) (by simp) fun a25 c25 w26 hs=>?_)))))))))
  replace hs:Own w no w26 [row (.slice a25 ((out++[gd l k]).length) c25) ((out++[gd l k]).map lsc) 125 2,blk b3 (lsc (gd l k)) 125,row (.slice (some ⟨b23,0,none⟩) 1 1) ([gd l k].map lsc) 125 2]:=hs
  refine Qaa (Qad (V:=.slice a25 ((out++[gd l k]).length) c25) rfl (Qaf (Qab (Qaa (Qac (V:=I6 (k:Int)) rfl (Qaa (QaD (a:=(k:Int)) (b:=1) (c:=((k+1:Nat):Int)) rfl rfl (Qak (by omega) (by omega)) (Qaa (Qad (V:=I6 ((k+1:Nat):Int)) rfl (Qaf ?_))))))))))
  refine ⟨_,?_,_,k+1,a25,c25,out++[gd l k],dn,Qai (Qai (Qai (Qao (ds:=(sq 7 41)) (by repeat (first|exact Agr.refl _ _|refine Agr.upd ?_ rfl|refine Agr.mix ?_ rfl))) rfl) rfl) rfl,(by omega),(by simp only [QQ7,List.length_singleton];omega),(Quy htk (by omega) c6 c14),rfl,hs.take 1⟩
  omega
 replace c2:=QQ2 c2
 refine QaH (Qag (Qag (Qab (Qaa (Qac (V:=.bool dn) rfl (Qaa (Qbx rfl (Qaf (Qan (t:=!dn) rfl (fun c27=>?_) (fun c27=>?_))))))))))
 ·
  replace c27:=Qbs c27
  refine Qab (Qaa (Qac (V:=.slice an out.length cn) rfl (Qaa (Qac (V:=I7 c) rfl (Qaa (Qac (V:=.int .u32 t) rfl (Qaa (Qby (vs:=[(0,I7 c),(1,.int .u32 t)]) (cs:=lsc (⟨c,t⟩:Lst)) QpL (rfl) rfl (Qaa (QeP (vals:=[.agg (lsc (⟨c,t⟩:Lst)).toArray]) (ls:=List.map lsc ([(⟨c,t⟩:Lst)]:List Lst)) QfG rfl rfl rfl (Qbi (enc:=lsc) (fun _=>rfl) _) (QaL QbF _) (QQ8 rfl) hs fun b28 w29 hs=>(Qaa (QbY (ls':=(out++[(⟨c,t⟩:Lst)]).map lsc) (n:=(out++[(⟨c,t⟩:Lst)]).length) QfG hs 0 rfl rfl rfl (hs.rd 1 rfl) (QaL QbF _) (by simp only [QQ6,QQ7,List.length_cons,List.length_nil];omega) (by simp) (by simp) fun a30 c30 w31 hs=>(Qaa (Qad (V:=.slice a30 ((out++[(⟨c,t⟩:Lst)]).length) c30) rfl (Qaf (Qag (Qab (Qaa (Qac (V:=.slice a30 ((out++[(⟨c,t⟩:Lst)]).length) c30) rfl (Qaa (Qad (V:=.slice a30 ((out++[(⟨c,t⟩:Lst)]).length) c30) rfl (Qaf (Qaw ?_)))))))))))))))))))))))
  refine ⟨_,Qaq (V:=.slice a30 ((out++[(⟨c,t⟩:Lst)]).length) c30) Tryz.results54 rfl,?_⟩
  have hX:=(Qpw htk (by omega)).2 c27
  rw [← hX] at hs ⊢
  exact ⟨(a30,c30),rfl,hs.only 0 rfl,trivial⟩
 replace c27:=Qbd c27
 refine Qap (Qag (Qab (Qaa (Qac (V:=.slice an out.length cn) rfl (Qaa (Qad (V:=.slice an out.length cn) rfl (Qaf (Qaw ?_))))))))
 refine ⟨_,Qaq (V:=.slice an out.length cn) Tryz.results54 rfl,?_⟩
 have hX:=(Qpw htk (by omega)).1 c27
 rw [← hX] at hs ⊢
 exact ⟨(an,cn),rfl,hs.only 0 rfl,trivial⟩
end Tt
end Go.Proofs
namespace Go.Proofs
open Go Go.Vx Go.RowKit
namespace Tt
theorem QiI (w:World) (p:Pst) (a1:Option Addr) (c1:Nat) (a2:Option Addr) (c2:Nat) (a3:Option Addr) (c3:Nat) (cut:Vec) (hcut:QbX cut) (hok:Qdw p) (hle:p.base.ents.length<=400) (hlt:p.base.ticks.length<=400) (hlo:p.ops.length<=400) (hr1:Rd w (.slice a1 p.base.ents.length c1) 7 (p.base.ents.map cec)) (hr2:Rd w (.slice a2 p.base.ticks.length c2) 2 (p.base.ticks.map lsc)) (hr3:Rd w (.slice a3 p.ops.length c3) 23 (p.ops.map oc)):Calls Tryz.prog 14 #[.agg (((vc p.base.known)++[(.slice a1 p.base.ents.length c1:Value),(.slice a2 p.base.ticks.length c2:Value) ])++[(.slice a3 p.ops.length c3:Value) ]++(vc p.known)).toArray,.agg (vc cut).toArray] w (fun e w'=>∃ x:((Option Addr × Nat) × (Option Addr × Nat)) × Bool,e = .returned (.tuple #[.agg (vc (Qah p cut).known++[(.slice x.1.1.1 ((Qah p cut).ents).length x.1.1.2:Value),(.slice x.1.2.1 ((Qah p cut).ticks).length x.1.2.2:Value)]).toArray,.int .i64 (QaY p cut)])/\Own w no w' [row (.slice x.1.1.1 ((Qah p cut).ents).length x.1.1.2) ((Qah p cut).ents.map cec) 119 7,cond x.2 emp (row (.slice x.1.2.1 ((Qah p cut).ticks).length x.1.2.2) ((Qah p cut).ticks.map lsc) 125 2)]/\(x.2=true->x.1.2=(a2,c2)/\(Qah p cut).ticks=p.base.ticks)):=by
 refine Qaj (n:=94) Tryz.func14 rfl Tryz.ntmps14 rfl ?_
 have hs:=Own.start w
 have ⟨hokb,hoko,hokk⟩:=hok
 have hn1:=hr1.sml
 have hn2:=hr2.sml
 have hn3:=hr3.sml
 refine Qag (Qab (Qaa (QaR (V:=.agg (((vc p.base.known)++[(.slice a1 p.base.ents.length c1:Value),(.slice a2 p.base.ticks.length c2:Value) ])++[(.slice a3 p.ops.length c3:Value) ]++(vc p.known)).toArray) (cs:=((vc p.base.known)++[(.slice a1 p.base.ents.length c1:Value),(.slice a2 p.base.ticks.length c2:Value) ])++[(.slice a3 p.ops.length c3:Value) ]++(vc p.known)) rfl rfl hs fun b1 w2 hs=>(Qaa (QaR (V:=.agg (vc cut).toArray) (cs:=vc cut) rfl rfl hs fun b3 w4 hs=>(Qaa (QaK (cs:=(vc vzero)++[(.slice none 0 0:Value),(.slice none 0 0:Value) ]) Qmn rfl hs fun b5 w6 hs=>(Qaa (Qad (V:=I6 0) rfl (Qaf (Qag (Qab (Qaa (QaI (cs:=((vc p.base.known)++[(.slice a1 p.base.ents.length c1:Value),(.slice a2 p.base.ticks.length c2:Value) ])++[(.slice a3 p.ops.length c3:Value) ]++(vc p.known)) QgQ hs 0 rfl rfl rfl (Qaa (QaI (cs:=vc cut) Qbt hs 1 rfl rfl rfl (Qaa (Qau (vs:=[.agg (((vc p.base.known)++[(.slice a1 p.base.ents.length c1:Value),(.slice a2 p.base.ticks.length c2:Value) ])++[(.slice a3 p.ops.length c3:Value) ]++(vc p.known)).toArray,.agg (vc cut).toArray]) (V:=I6 (QaY p cut)) QsV rfl rfl ?hc hs fun w7 hs=>?_))))))))))))))))))
 case hc=>exact (QmG _ p a1 c1 a2 c2 a3 c3 cut hcut hok (Rd.own' hr1 hs) (Rd.own' hr2 hs) (Rd.own' hr3 hs))
 refine Qaa (Qad (V:=I6 (QaY p cut)) rfl (Qaf (Qag (Qag (Qab (Qaa (Qac (V:=I6 (QaY p cut)) rfl (Qaa (Qb7 rfl rfl (Qaf (Qan (t:=!decide (QaY p cut=0)) rfl (fun c8=>?_) (fun c8=>?_))))))))))))
 ·
  replace c8:=Qbs c8
  replace c8:=QQ2 c8
  refine Qag (Qab (Qaa (Qcs (vs:=[]) (cs:=(vc vzero)++[(.slice none 0 0:Value),(.slice none 0 0:Value) ]) [vc vzero,[(.slice none 0 0:Value)],[(.slice none 0 0:Value)]] [vc vzero,[(.slice none 0 0:Value)],[(.slice none 0 0:Value)]] Qra rfl (rfl) rfl rfl (Qaa (Qac (V:=I6 (QaY p cut)) rfl (Qaa (Qcq (V:=.agg ((vc vzero)++[(.slice none 0 0:Value),(.slice none 0 0:Value) ]).toArray) (vs:=(vc vzero)++[(.slice none 0 0:Value),(.slice none 0 0:Value) ]) (cs':=(vc vzero)++[(.slice none 0 0:Value),(.slice none 0 0:Value) ]) Qdj.1 hs 2 rfl rfl rfl rfl rfl (QQ8 rfl) (QbB (Qcd _) (Qat rfl (Qat rfl Qa9))) (Qay rfl) fun w9 hs=>?_)))))))
  replace hs:Own w no w9 [blk b1 (((vc p.base.known)++[(.slice a1 p.base.ents.length c1:Value),(.slice a2 p.base.ticks.length c2:Value) ])++[(.slice a3 p.ops.length c3:Value) ]++(vc p.known)) 31,blk b3 (vc cut) 24,blk b5 ((vc vzero)++[(.slice none 0 0:Value),(.slice none 0 0:Value) ]) 28]:=hs
  refine Qaa (Qad (V:=I6 (QaY p cut)) rfl (Qaf (Qaw ?_)))
  refine ⟨_,QcM (cs:=(vc vzero)++[(.slice none 0 0:Value),(.slice none 0 0:Value) ]) (V:=I6 (QaY p cut)) Tryz.results14 Qdj hs 2 rfl rfl rfl rfl,?_⟩
  rw [QiR c8]
  exact ⟨(((none,0),(none,0)),false),rfl,((hs.take 0).more _ (Qbo _ _ 119 7)).more _ (Qbo _ _ 125 2),fun h=>nomatch h⟩
 replace c8:=Qbd c8
 replace c8:=QQ1 c8
 refine Qap (Qag (Qab (Qaa (Qae Qd5 rfl (Qaa (QaF (V:=.slice a3 p.ops.length c3) Qfk hs 0 rfl rfl rfl (Qaa (QaI (cs:=vc cut) Qbt hs 1 rfl rfl rfl (Qaa (Qbf (vs:=[.slice a3 p.ops.length c3,.agg (vc cut).toArray]) (V:=fun x:Option Addr × Nat=>.slice x.1 (Qal p.ops cut).length x.2) Qup rfl rfl (QmU _ cut a3 c3 p.ops hoko (by omega) (Rd.own' hr3 hs)) hs fun x10 w11 hs _=>?_))))))))))
 replace hs:Own w no w11 [blk b1 (((vc p.base.known)++[(.slice a1 p.base.ents.length c1:Value),(.slice a2 p.base.ticks.length c2:Value) ])++[(.slice a3 p.ops.length c3:Value) ]++(vc p.known)) 31,blk b3 (vc cut) 24,blk b5 ((vc vzero)++[(.slice none 0 0:Value),(.slice none 0 0:Value) ]) 28,row (.slice x10.1 ((Qal p.ops cut).length) x10.2) ((Qal p.ops cut).map oc) 98 23]:=hs
 refine Qaa (Qad (V:=.slice x10.1 ((Qal p.ops cut).length) x10.2) rfl (Qaf (Qag (Qab (Qaa (Qad (V:=.slice none 0 0) rfl (Qaf (Qag (Qab (Qaa (Qae QdT rfl (Qaa (Qae Qb5 rfl (Qaa (QaF (V:=.slice a2 p.base.ticks.length c2) Qd6 hs 0 rfl rfl rfl (Qaa (Qad (V:=.slice a2 p.base.ticks.length c2) rfl (Qaf (Qag (Qag (Qab (Qaa (Qad (V:=I6 0) rfl (Qaf (Qam ?_)))))))))))))))))))))))))
 have hr0:=(Qe9 c8).1
 obtain ⟨hopsC,hrb⟩:=Qc2 hr0
 have hul:=Qh7 p.ops cut
 replace hs:=hs.more (row (.slice none 0 0) (List.map cec []) 119 7) (Qbo _ _ _ _)
 refine QaA (fun J μ J' w'=>∃ (Jo:Env) (k:Nat) (a7:Option Addr) (cb7:Nat) (L7:List Cen),J'=upd (upd (mix ([8,10,11]++sq 28 23) Jo J) 10 (I6 (k:Int))) 8 (.slice a7 L7.length cb7)/\(k<=p.base.ents.length)/\(L7=(p.base.ents.take k).filter (Qc6 (Qal p.ops cut)))/\(L7.length<=k)/\μ=p.base.ents.length-k/\Own w no w' [blk b1 (((vc p.base.known)++[(.slice a1 p.base.ents.length c1:Value),(.slice a2 p.base.ticks.length c2:Value) ])++[(.slice a3 p.ops.length c3:Value) ]++(vc p.known)) 31,blk b3 (vc cut) 24,blk b5 ((vc vzero)++[(.slice none 0 0:Value),(.slice none 0 0:Value) ]) 28,row (.slice x10.1 ((Qal p.ops cut).length) x10.2) ((Qal p.ops cut).map oc) 98 23,row (.slice a7 L7.length cb7) (L7.map cec) 119 7]) ?_ ?_
 ·exact ⟨_,_,0,none,0,[],Qai (Qai (Qao (ds:=([8,10,11]++sq 28 23)) (Agr.refl _ _)) rfl) rfl,(by omega),rfl,(Nat.le_refl _),rfl,hs⟩
 rintro μ J' w12 ⟨Jo,k,a7,cb7,L7,rfl,hk,hL7,hn7,rfl,hs⟩
 refine Qag (Qag (Qab (Qaa (Qac (V:=I6 (k:Int)) rfl (Qaa (Qae QdT rfl (Qaa (Qae Qbv rfl (Qaa (QaF (V:=.slice a1 p.base.ents.length c1) QcL hs 0 rfl rfl rfl (Qaa (QaX (n:=p.base.ents.length) Qcv (Rd.own' hr1 hs) (by simp) rfl (Qaa (QaS rfl rfl (Qaf (Qan (t:=decide ((k:Int)<((p.base.ents.length:Nat):Int))) rfl (fun c13=>?_) (fun c13=>?_)))))))))))))))))
 ·
  replace c13:=QQ1 c13
  refine Qap (Qag (Qam (Qag ?_)))
  have hdk:=(hokb.2.1 _ (QbP (l:=p.base.ents) (i:=k) (by omega))).2.2.2.2.1
  refine Qab (Qaa (Qae QdT rfl (Qaa (Qae Qbv rfl (Qaa (QaF (V:=.slice a1 p.base.ents.length c1) QcL hs 0 rfl rfl rfl (Qaa (Qac (V:=I6 (k:Int)) rfl (Qaa (Qax Qcv Qbp.1 (Rd.own' hr1 hs) rfl rfl (by omega) (by rw [QQ6];omega) (Qaa (QaV (j:=0) (vs:=cec (gd p.base.ents k)) k Qbp (Rd.own' hr1 hs) (QaW (by omega)) rfl rfl rfl (by omega) (Qaa (QaK (cs:=cec (⟨0,0,0,0,(⟨0,0⟩:Dot),0⟩:Cen)) QmP rfl hs fun b14 w15 hs=>(Qaa (Qcq (V:=.agg (cec (gd p.base.ents k)).toArray) (vs:=cec (gd p.base.ents k)) (cs':=cec (gd p.base.ents k)) Qbp.1 hs 5 rfl rfl rfl rfl rfl (QQ8 rfl) (Qa6 _) (Qay rfl) fun w16 hs=>(Qaf (Qag (Qab (Qaa (Qac (V:=.slice x10.1 ((Qal p.ops cut).length) x10.2) rfl (Qaa (QaI (cs:=cec (gd p.base.ents k)) Qbp hs 5 rfl rfl rfl (Qaa (Qau (vs:=[.agg (cec (gd p.base.ents k)).toArray]) (V:=.agg (oc (Qbn (gd p.base.ents k))).toArray) Qul rfl rfl ?hc hs fun w17 hs=>?_)))))))))))))))))))))))))
  case hc=>exact (QoA _ (gd p.base.ents k))
  refine Qaa (Qau (vs:=[.slice x10.1 ((Qal p.ops cut).length) x10.2,.agg (oc (Qbn (gd p.base.ents k))).toArray]) (V:=.bool ((Qal p.ops cut).any fun x=>QaZ x (Qbn (gd p.base.ents k)))) Qs2 rfl rfl ?hc hs fun w18 hs=>?_)
  case hc=>exact (QjZ _ x10.1 x10.2 (Qal p.ops cut) (Qbn (gd p.base.ents k)) (by assumption) (hs.rd 3 rfl))
  refine Qaa (Qbx rfl (Qaf (Qan (t:=!((Qal p.ops cut).any fun x=>QaZ x (Qbn (gd p.base.ents k)))) rfl (fun c19=>?_) (fun c19=>?_))))
  ·
   replace c19:=Qbs c19
   refine Qab (Qaa (Qac (V:=.slice a7 L7.length cb7) rfl (Qaa (QaI (cs:=cec (gd p.base.ents k)) Qbp hs 5 rfl rfl rfl (Qaa (QeP (vals:=[.agg (cec (gd p.base.ents k)).toArray]) (ls:=List.map cec ([gd p.base.ents k]:List Cen)) QfH rfl rfl rfl (Qbi (enc:=cec) (fun _=>rfl) _) (QaL Qa6 _) (QQ8 rfl) hs fun b20 w21 hs=>(Qaa (QbY (ls':=(L7++[gd p.base.ents k]).map cec) (n:=(L7++[gd p.base.ents k]).length) QfH hs 4 rfl rfl rfl (hs.rd 6 rfl) (QaL Qa6 _) (by simp only [QQ6,QQ7,List.length_cons,List.length_nil];omega) (by simp) (by simp) fun a22 c22 w23 hs=>?_))))))))
   replace hs:Own w no w23 [blk b1 (((vc p.base.known)++[(.slice a1 p.base.ents.length c1:Value),(.slice a2 p.base.ticks.length c2:Value) ])++[(.slice a3 p.ops.length c3:Value) ]++(vc p.known)) 31,blk b3 (vc cut) 24,blk b5 ((vc vzero)++[(.slice none 0 0:Value),(.slice none 0 0:Value) ]) 28,row (.slice x10.1 ((Qal p.ops cut).length) x10.2) ((Qal p.ops cut).map oc) 98 23,row (.slice a22 ((L7++[gd p.base.ents k]).length) c22) ((L7++[gd p.base.ents k]).map cec) 119 7,blk b14 (cec (gd p.base.ents k)) 119,row (.slice (some ⟨b20,0,none⟩) 1 1) ([gd p.base.ents k].map cec) 119 7]:=hs
   refine Qaa (Qad (V:=.slice a22 ((L7++[gd p.base.ents k]).length) c22) rfl (Qaf (Qab (Qaa (Qac (V:=I6 (k:Int)) rfl (Qaa (QaD (a:=(k:Int)) (b:=1) (c:=((k+1:Nat):Int)) rfl rfl (Qak (by omega) (by omega)) (Qaa (Qad (V:=I6 ((k+1:Nat):Int)) rfl (Qaf ?_))))))))))
   refine ⟨_,?_,_,k+1,a22,c22,L7++[gd p.base.ents k],Qai (Qai (Qao (ds:=([8,10,11]++sq 28 23)) (by repeat (first|exact Agr.refl _ _|refine Agr.upd ?_ rfl|refine Agr.mix ?_ rfl))) rfl) rfl,(by omega),(QeR hL7 (by omega) (by rw [Qiv,c19];rfl)),(by rw [QQ7,List.length_singleton];omega),rfl,hs.take 5⟩
   omega
  replace c19:=Qbd c19
  refine Qap (Qab (Qaa (Qac (V:=I6 (k:Int)) rfl (Qaa (QaD (a:=(k:Int)) (b:=1) (c:=((k+1:Nat):Int)) rfl rfl (Qak (by omega) (by omega)) (Qaa (Qad (V:=I6 ((k+1:Nat):Int)) rfl (Qaf ?_))))))))
  refine ⟨_,?_,_,k+1,a7,cb7,L7,Qai (Qai (Qao (ds:=([8,10,11]++sq 28 23)) (by repeat (first|exact Agr.refl _ _|refine Agr.upd ?_ rfl|refine Agr.mix ?_ rfl))) rfl) rfl,(by omega),(Qd3 hL7 (by omega) (by rw [Qiv,c19];rfl)),(by omega),rfl,hs.take 5⟩
  omega
 replace c13:=QQ2 c13
 refine QaH (Qag (Qag (Qab (Qaa (Qad (V:=I6 0) rfl (Qaf (Qam ?_)))))))
 have hL70:L7=p.base.ents.filter (Qc6 (Qal p.ops cut)):=by rw [hL7,Qck (by omega)]
 replace hs:=hs.more emp trivial
 refine QaA (fun J μ J' w'=>∃ (Jo:Env) (k2:Nat) (a6:Option Addr) (cb6:Nat) (L6:List Cen) (z:Bool) (a9:Option Addr) (cb9:Nat) (T9:List Lst),J'=upd (upd (upd (mix ([8,9,12,13]++sq 51 39) Jo J) 12 (I6 (k2:Int))) 8 (.slice a6 L6.length cb6)) 9 (.slice a9 T9.length cb9)/\(k2<=(Qal p.ops cut).length)/\(L6=Qcc ((QbA p.base.ents ((Qal p.ops cut).take k2)).filter (Qc6 (Qal p.ops cut))))/\(T9=Qco p.base.ticks ((Qal p.ops cut).take k2))/\(z=true->((a9,cb9)=(a2,c2)/\T9=p.base.ticks))/\(L6.length<=p.base.ents.length+k2)/\μ=(Qal p.ops cut).length-k2/\Own w no w' [blk b1 (((vc p.base.known)++[(.slice a1 p.base.ents.length c1:Value),(.slice a2 p.base.ticks.length c2:Value) ])++[(.slice a3 p.ops.length c3:Value) ]++(vc p.known)) 31,blk b3 (vc cut) 24,blk b5 ((vc vzero)++[(.slice none 0 0:Value),(.slice none 0 0:Value) ]) 28,row (.slice x10.1 ((Qal p.ops cut).length) x10.2) ((Qal p.ops cut).map oc) 98 23,row (.slice a6 L6.length cb6) (L6.map cec) 119 7,cond z emp (row (.slice a9 T9.length cb9) (T9.map lsc) 125 2)]) ?_ ?_
 ·exact ⟨_,_,0,a7,cb7,L7,true,a2,c2,p.base.ticks,Qai (Qai (Qai (Qao (ds:=([8,9,12,13]++sq 51 39)) (Agr.refl _ _)) rfl) rfl) rfl,(by omega),(QmC hr0 _ hL70),rfl,(fun _=>⟨rfl,rfl⟩),(by omega),rfl,hs⟩
 rintro μ J' w24 ⟨Jo,k2,a6,cb6,L6,z,a9,cb9,T9,rfl,hk2,hL6,hT9,hz9,hn6,rfl,hs⟩
 have hrz:z=true->Rd w (.slice a9 T9.length cb9) 2 (T9.map lsc):=fun h=>by
  obtain ⟨e1,e2⟩:=hz9 h
  rw [Prod.mk.injEq] at e1
  rw [e1.1,e1.2,e2];exact hr2
 have hT8:QdQ T9:=by rw [hT9];exact Qfm hrb.rt _
 have hl9:T9.length<=3000:=by have:=Qg4 (s:=p.base.ticks) ((Qal p.ops cut).take k2);rw [← hT9,List.length_take] at this;omega
 refine Qag (Qag (Qab (Qaa (Qac (V:=I6 (k2:Int)) rfl (Qaa (Qac (V:=.slice x10.1 ((Qal p.ops cut).length) x10.2) rfl (Qaa (QaX (n:=(Qal p.ops cut).length) QdJ (hs.rd 3 rfl) (by simp) rfl (Qaa (QaS rfl rfl (Qaf (Qan (t:=decide ((k2:Int)<(((Qal p.ops cut).length:Nat):Int))) rfl (fun c25=>?_) (fun c25=>?_)))))))))))))
 ·
  replace c25:=QQ1 c25
  refine Qap (Qag (Qam (Qag ?_)))
  have hOk:=hoko _ (Qds (QbP (l:=(Qal p.ops cut)) (i:=k2) (by omega)))
  have hdk:=hOk.1
  have hxk:=hOk.2.2.2.2.2.2
  refine Qab (Qaa (Qac (V:=.slice x10.1 ((Qal p.ops cut).length) x10.2) rfl (Qaa (Qac (V:=I6 (k2:Int)) rfl (Qaa (Qax QdJ QbZ.1 (hs.rd 3 rfl) rfl rfl (by omega) (by rw [QQ6];omega) (Qaa (QaV (j:=0) (vs:=oc (gd (Qal p.ops cut) k2)) k2 QbZ (hs.rd 3 rfl) (QaW (by omega)) rfl rfl rfl (by omega) (Qaa (QaK (cs:=oc (⟨(⟨0,0⟩:Dot),0,0,0,0,0,vzero⟩:Opn)) Qmf rfl hs fun b26 w27 hs=>(Qaa (Qcq (V:=.agg (oc (gd (Qal p.ops cut) k2)).toArray) (vs:=oc (gd (Qal p.ops cut) k2)) (cs':=oc (gd (Qal p.ops cut) k2)) QbZ.1 hs 6 rfl rfl rfl rfl rfl (QQ8 rfl) (Qep _) (Qay rfl) fun w28 hs=>(Qaf (Qag (Qab (Qaa (Qac (V:=.slice a9 T9.length cb9) rfl (Qaa (Qae QdH rfl (Qaa (QaF (V:=I7 ((gd (Qal p.ops cut) k2).cart)) Qar hs 6 rfl rfl rfl (Qaa (Qae QhE rfl (Qaa (QaF (V:=.int .u32 ((gd (Qal p.ops cut) k2).tick)) Qa8 hs 6 rfl rfl rfl (Qaa (Qbf (vs:=[.slice a9 T9.length cb9,I7 ((gd (Qal p.ops cut) k2).cart),.int .u32 ((gd (Qal p.ops cut) k2).tick)]) (V:=fun x:Option Addr × Nat=>.slice x.1 (Qc7 ((gd (Qal p.ops cut) k2).cart) ((gd (Qal p.ops cut) k2).tick) T9).length x.2) Qvl rfl rfl (Qk0 _ a9 cb9 T9 ((gd (Qal p.ops cut) k2).cart) ((gd (Qal p.ops cut) k2).tick) (by omega) hT8 (hs.rdC 5 rfl hrz)) hs fun x29 w30 hs _=>(Qaa (Qad (V:=.slice x29.1 ((Qc7 ((gd (Qal p.ops cut) k2).cart) ((gd (Qal p.ops cut) k2).tick) T9).length) x29.2) rfl (Qaf (Qag (Qbm [some 67,some 68,some 69,some 70,some 71,some 72,some 73,some 74] [] [0,1,3,7,7,31,63,127] [pv (.agg (oc (gd (Qal p.ops cut) k2)).toArray),pv (.bool (Qa4 (gd (Qal p.ops cut) k2))),pv (.bool (Qa4 (gd (Qal p.ops cut) k2))),pg ((Qa4 (gd (Qal p.ops cut) k2)) == true) (.slice x10.1 ((Qal p.ops cut).length) x10.2),pg ((Qa4 (gd (Qal p.ops cut) k2)) == true) (.agg (oc (gd (Qal p.ops cut) k2)).toArray),pg ((Qa4 (gd (Qal p.ops cut) k2)) == true) (.bool ((Qal p.ops cut).any fun x=>QaZ x (gd (Qal p.ops cut) k2))),pg ((Qa4 (gd (Qal p.ops cut) k2)) == true) (.bool (!((Qal p.ops cut).any fun x=>QaZ x (gd (Qal p.ops cut) k2)))),pv (.bool ((Qa4 (gd (Qal p.ops cut) k2))&&(!((Qal p.ops cut).any fun x=>QaZ x (gd (Qal p.ops cut) k2)))))] (fun _ _=>_) [7] (by kernel_rfl) hs ⟨?_,?_,?_,?_,?_,?_,?_,?_,trivial⟩ ?_))))))))))))))))))))))))))))))))
  ·exact oa [] fun D J w hs=>QaI (cs:=oc (gd (Qal p.ops cut) k2)) QbZ hs 6 rfl rfl rfl (Zz hs)
  ·exact oa [0] fun D J w hs=>Qau (vs:=[.agg (oc (gd (Qal p.ops cut) k2)).toArray]) (V:=.bool (Qa4 (gd (Qal p.ops cut) k2))) Qt5 rfl rfl (QjV _ (gd (Qal p.ops cut) k2)) hs fun _ hs=>Zz hs
  ·exact oa [1] fun D J w hs=>Qac (V:=.bool (Qa4 (gd (Qal p.ops cut) k2))) rfl (Zz hs)
  ·exact og [2] fun D J w hG hs=>Qac (V:=.slice x10.1 ((Qal p.ops cut).length) x10.2) rfl (Zz hs)
  ·exact og [2] fun D J w hG hs=>QaI (cs:=oc (gd (Qal p.ops cut) k2)) QbZ hs 6 rfl rfl rfl (Zz hs)
  ·exact oy [2,3,4] [3,4] fun D J w hG hs=>Qau (vs:=[.slice x10.1 ((Qal p.ops cut).length) x10.2,.agg (oc (gd (Qal p.ops cut) k2)).toArray]) (V:=.bool ((Qal p.ops cut).any fun x=>QaZ x (gd (Qal p.ops cut) k2))) Qs2 rfl rfl (QjZ _ x10.1 x10.2 (Qal p.ops cut) (gd (Qal p.ops cut) k2) (by assumption) (hs.rd 3 rfl)) hs fun _ hs=>Zz hs
  ·exact oy [2,5] [5] fun D J w hG hs=>Qbx rfl (Zz hs)
  ·exact oa [2,6] fun D J w hs=>Qa7 (h':=!((Qal p.ops cut).any fun x=>QaZ x (gd (Qal p.ops cut) k2))) rfl rfl rfl (Zz hs)
  rintro J1 w33 J2 hJ hs
  replace hJ:J2=upd (mix (sq 67 8) J1 _) 74 (.bool ((Qa4 (gd (Qal p.ops cut) k2))&&(!((Qal p.ops cut).any fun x=>QaZ x (gd (Qal p.ops cut) k2))))):=hJ
  subst hJ
  refine Qan (t:=(Qa4 (gd (Qal p.ops cut) k2))&&(!((Qal p.ops cut).any fun x=>QaZ x (gd (Qal p.ops cut) k2)))) rfl (fun c34=>?_) (fun c34=>?_)
  ·
   have c34r:=QbG c34
   replace c34:=QbC c34
   replace c34r:=Qbs c34r
   replace hs:=hs.more emp trivial
   refine QaJ HM [some 75,some 76,some 77,some 78,some 79,some 80,some 81,some 82,some 83,some 84,some 85,some 86,some 87,some 88,some 89,some 8] [[],[],[],[],[],[],[],[],[],[],[],[],[],[],[89],[89]] [0,0,2,0,8,0,32,0,128,0,512,0,2048,8190,16383,32767] [pv (.slice a6 L6.length cb6),pv (Pq b26 (0+3)),pv (I7 ((gd (Qal p.ops cut) k2).cart)),pv (Pq b26 (0+4)),pv (I7 ((gd (Qal p.ops cut) k2).item)),pv (Pq b26 (0+5)),pv (I7 ((gd (Qal p.ops cut) k2).qty)),pv (Pq b26 (0+2)),pv (.int .u8 ((gd (Qal p.ops cut) k2).kind)),pv (Pq b26 (0+0)),pv (.agg (dc ((gd (Qal p.ops cut) k2).dot)).toArray),pv (.agg (oc (gd (Qal p.ops cut) k2)).toArray),pv (.int .u64 (QcT (gd (Qal p.ops cut) k2))),pv (.agg (cec (⟨(gd (Qal p.ops cut) k2).cart,(gd (Qal p.ops cut) k2).item,(gd (Qal p.ops cut) k2).qty,(gd (Qal p.ops cut) k2).kind,(gd (Qal p.ops cut) k2).dot,QcT (gd (Qal p.ops cut) k2)⟩:Cen)).toArray),(true,fun J=>.slice (aOf (J 89)) ((QdC (⟨(gd (Qal p.ops cut) k2).cart,(gd (Qal p.ops cut) k2).item,(gd (Qal p.ops cut) k2).qty,(gd (Qal p.ops cut) k2).kind,(gd (Qal p.ops cut) k2).dot,QcT (gd (Qal p.ops cut) k2)⟩:Cen) L6).length) (cOf (J 89))),(true,fun J=>.slice (aOf (J 89)) ((QdC (⟨(gd (Qal p.ops cut) k2).cart,(gd (Qal p.ops cut) k2).item,(gd (Qal p.ops cut) k2).qty,(gd (Qal p.ops cut) k2).kind,(gd (Qal p.ops cut) k2).dot,QcT (gd (Qal p.ops cut) k2)⟩:Cen) L6).length) (cOf (J 89)))] (fun D J=>[blk b1 (((vc p.base.known)++[(.slice a1 p.base.ents.length c1:Value),(.slice a2 p.base.ticks.length c2:Value) ])++[(.slice a3 p.ops.length c3:Value) ]++(vc p.known)) 31,blk b3 (vc cut) 24,blk b5 ((vc vzero)++[(.slice none 0 0:Value),(.slice none 0 0:Value) ]) 28,row (.slice x10.1 ((Qal p.ops cut).length) x10.2) ((Qal p.ops cut).map oc) 98 23,row (.slice a6 L6.length cb6) (L6.map cec) 119 7,cond z emp (row (.slice a9 T9.length cb9) (T9.map lsc) 125 2),blk b26 (oc (gd (Qal p.ops cut) k2)) 98,row (.slice x29.1 ((Qc7 ((gd (Qal p.ops cut) k2).cart) ((gd (Qal p.ops cut) k2).tick) T9).length) x29.2) ((Qc7 ((gd (Qal p.ops cut) k2).cart) ((gd (Qal p.ops cut) k2).tick) T9).map lsc) 125 2,cond (D 14) (row (.slice (aOf (J 89)) ((QdC (⟨(gd (Qal p.ops cut) k2).cart,(gd (Qal p.ops cut) k2).item,(gd (Qal p.ops cut) k2).qty,(gd (Qal p.ops cut) k2).kind,(gd (Qal p.ops cut) k2).dot,QcT (gd (Qal p.ops cut) k2)⟩:Cen) L6).length) (cOf (J 89))) ((QdC (⟨(gd (Qal p.ops cut) k2).cart,(gd (Qal p.ops cut) k2).item,(gd (Qal p.ops cut) k2).qty,(gd (Qal p.ops cut) k2).kind,(gd (Qal p.ops cut) k2).dot,QcT (gd (Qal p.ops cut) k2)⟩:Cen) L6).map cec) 119 7) (emp)]) [15] (by kernel_rfl) hs ⟨?_,?_,?_,?_,?_,?_,?_,?_,?_,?_,?_,?_,?_,?_,?_,?_,trivial⟩ ?_
   ·exact ob [] [15] rfl rfl fun D J w hs=>Qac (V:=.slice a6 L6.length cb6) rfl (Zz hs)
   ·exact oa [] fun D J w hs=>Qae QdH rfl (Zz hs)
   ·exact oa [1] fun D J w hs=>QaF (V:=.int .u16 ((gd (Qal p.ops cut) k2).cart)) Qar hs 6 rfl rfl rfl (Zz hs)
   ·exact oa [] fun D J w hs=>Qae QcX rfl (Zz hs)
   ·exact oa [3] fun D J w hs=>QaF (V:=.int .u16 ((gd (Qal p.ops cut) k2).item)) Qar hs 6 rfl rfl rfl (Zz hs)
   ·exact oa [] fun D J w hs=>Qae Qdo rfl (Zz hs)
   ·exact oa [5] fun D J w hs=>QaF (V:=.int .u16 ((gd (Qal p.ops cut) k2).qty)) Qar hs 6 rfl rfl rfl (Zz hs)
   ·exact oa [] fun D J w hs=>Qae QbQ rfl (Zz hs)
   ·exact oa [7] fun D J w hs=>QaF (V:=.int .u8 ((gd (Qal p.ops cut) k2).kind)) QcJ hs 6 rfl rfl rfl (Zz hs)
   ·exact oa [] fun D J w hs=>Qae Qb0 rfl (Zz hs)
   ·exact oa [9] fun D J w hs=>QbL (vs:=dc ((gd (Qal p.ops cut) k2).dot)) QcI hs 6 rfl rfl rfl rfl (Zz hs)
   ·exact oa [] fun D J w hs=>QaI (cs:=oc (gd (Qal p.ops cut) k2)) QbZ hs 6 rfl rfl rfl (Zz hs)
   ·exact oa [11] fun D J w hs=>Qau (vs:=[.agg (oc (gd (Qal p.ops cut) k2)).toArray]) (V:=.int .u64 (QcT (gd (Qal p.ops cut) k2))) Qu5 rfl rfl (QkX _ (gd (Qal p.ops cut) k2) hxk) hs fun _ hs=>Zz hs
   ·exact oa [2,4,6,8,10,12] fun D J w hs=>Qby (vs:=[(0,.int .u16 ((gd (Qal p.ops cut) k2).cart)),(1,.int .u16 ((gd (Qal p.ops cut) k2).item)),(2,.int .u16 ((gd (Qal p.ops cut) k2).qty)),(3,.int .u8 ((gd (Qal p.ops cut) k2).kind)),(4,.agg (dc ((gd (Qal p.ops cut) k2).dot)).toArray),(5,.int .u64 (QcT (gd (Qal p.ops cut) k2)))]) (cs:=cec (⟨(gd (Qal p.ops cut) k2).cart,(gd (Qal p.ops cut) k2).item,(gd (Qal p.ops cut) k2).qty,(gd (Qal p.ops cut) k2).kind,(gd (Qal p.ops cut) k2).dot,QcT (gd (Qal p.ops cut) k2)⟩:Cen)) Quf (rfl) rfl (Zz hs)
   ·exact oa [0,13] fun D J w hs=>Qbf (vs:=[.slice a6 L6.length cb6,.agg (cec (⟨(gd (Qal p.ops cut) k2).cart,(gd (Qal p.ops cut) k2).item,(gd (Qal p.ops cut) k2).qty,(gd (Qal p.ops cut) k2).kind,(gd (Qal p.ops cut) k2).dot,QcT (gd (Qal p.ops cut) k2)⟩:Cen)).toArray]) (V:=fun x:Option Addr × Nat=>.slice x.1 (QdC (⟨(gd (Qal p.ops cut) k2).cart,(gd (Qal p.ops cut) k2).item,(gd (Qal p.ops cut) k2).qty,(gd (Qal p.ops cut) k2).kind,(gd (Qal p.ops cut) k2).dot,QcT (gd (Qal p.ops cut) k2)⟩:Cen) L6).length x.2) QuL rfl rfl (Qry _ a6 cb6 L6 (⟨(gd (Qal p.ops cut) k2).cart,(gd (Qal p.ops cut) k2).item,(gd (Qal p.ops cut) k2).qty,(gd (Qal p.ops cut) k2).kind,(gd (Qal p.ops cut) k2).dot,QcT (gd (Qal p.ops cut) k2)⟩:Cen) (by omega) (hs.rd 4 rfl)) hs fun _ _ hs _=>⟨rfl,hs.put 8 (QQ8 rfl)⟩
   ·exact oa [14] fun D J w hs=>Qad (V:=.slice (aOf (J 89)) ((QdC (⟨(gd (Qal p.ops cut) k2).cart,(gd (Qal p.ops cut) k2).item,(gd (Qal p.ops cut) k2).qty,(gd (Qal p.ops cut) k2).kind,(gd (Qal p.ops cut) k2).dot,QcT (gd (Qal p.ops cut) k2)⟩:Cen) L6).length) (cOf (J 89))) rfl (Zz hs)
   rintro J1 w37 J2 hJ hs
   replace hJ:J2=upd (mix (sq 75 15++[8]) J1 _) 8 (.slice (aOf (J1 89)) ((QdC (⟨(gd (Qal p.ops cut) k2).cart,(gd (Qal p.ops cut) k2).item,(gd (Qal p.ops cut) k2).qty,(gd (Qal p.ops cut) k2).kind,(gd (Qal p.ops cut) k2).dot,QcT (gd (Qal p.ops cut) k2)⟩:Cen) L6).length) (cOf (J1 89))):=hJ
   replace hs:Own w no w37 [blk b1 (((vc p.base.known)++[(.slice a1 p.base.ents.length c1:Value),(.slice a2 p.base.ticks.length c2:Value) ])++[(.slice a3 p.ops.length c3:Value) ]++(vc p.known)) 31,blk b3 (vc cut) 24,blk b5 ((vc vzero)++[(.slice none 0 0:Value),(.slice none 0 0:Value) ]) 28,row (.slice x10.1 ((Qal p.ops cut).length) x10.2) ((Qal p.ops cut).map oc) 98 23,row (.slice a6 L6.length cb6) (L6.map cec) 119 7,cond z emp (row (.slice a9 T9.length cb9) (T9.map lsc) 125 2),blk b26 (oc (gd (Qal p.ops cut) k2)) 98,row (.slice x29.1 ((Qc7 ((gd (Qal p.ops cut) k2).cart) ((gd (Qal p.ops cut) k2).tick) T9).length) x29.2) ((Qc7 ((gd (Qal p.ops cut) k2).cart) ((gd (Qal p.ops cut) k2).tick) T9).map lsc) 125 2,row (.slice (aOf (J1 89)) ((QdC (⟨(gd (Qal p.ops cut) k2).cart,(gd (Qal p.ops cut) k2).item,(gd (Qal p.ops cut) k2).qty,(gd (Qal p.ops cut) k2).kind,(gd (Qal p.ops cut) k2).dot,QcT (gd (Qal p.ops cut) k2)⟩:Cen) L6).length) (cOf (J1 89))) ((QdC (⟨(gd (Qal p.ops cut) k2).cart,(gd (Qal p.ops cut) k2).item,(gd (Qal p.ops cut) k2).qty,(gd (Qal p.ops cut) k2).kind,(gd (Qal p.ops cut) k2).dot,QcT (gd (Qal p.ops cut) k2)⟩:Cen) L6).map cec) 119 7]:=hs
   generalize (aOf (J1 89))=a38 at hJ hs
   generalize (cOf (J1 89))=c39 at hJ hs
   subst hJ
   refine Qab (Qaa (Qac (V:=I6 (k2:Int)) rfl (Qaa (QaD (a:=(k2:Int)) (b:=1) (c:=((k2+1:Nat):Int)) rfl rfl (Qak (by omega) (by omega)) (Qaa (Qad (V:=I6 ((k2+1:Nat):Int)) rfl (Qaf ?_)))))))
   have ho:=hs.sel [0,1,2,3,8,7] (L':=[blk b1 (((vc p.base.known)++[(.slice a1 p.base.ents.length c1:Value),(.slice a2 p.base.ticks.length c2:Value) ])++[(.slice a3 p.ops.length c3:Value) ]++(vc p.known)) 31,blk b3 (vc cut) 24,blk b5 ((vc vzero)++[(.slice none 0 0:Value),(.slice none 0 0:Value) ]) 28,row (.slice x10.1 ((Qal p.ops cut).length) x10.2) ((Qal p.ops cut).map oc) 98 23,row (.slice a38 ((QdC (⟨(gd (Qal p.ops cut) k2).cart,(gd (Qal p.ops cut) k2).item,(gd (Qal p.ops cut) k2).qty,(gd (Qal p.ops cut) k2).kind,(gd (Qal p.ops cut) k2).dot,QcT (gd (Qal p.ops cut) k2)⟩:Cen) L6).length) c39) ((QdC (⟨(gd (Qal p.ops cut) k2).cart,(gd (Qal p.ops cut) k2).item,(gd (Qal p.ops cut) k2).qty,(gd (Qal p.ops cut) k2).kind,(gd (Qal p.ops cut) k2).dot,QcT (gd (Qal p.ops cut) k2)⟩:Cen) L6).map cec) 119 7,row (.slice x29.1 ((Qc7 ((gd (Qal p.ops cut) k2).cart) ((gd (Qal p.ops cut) k2).tick) T9).length) x29.2) ((Qc7 ((gd (Qal p.ops cut) k2).cart) ((gd (Qal p.ops cut) k2).tick) T9).map lsc) 125 2]) (by decide) rfl
   replace hs:=ho
   refine ⟨_,?_,_,k2+1,a38,c39,QdC (⟨(gd (Qal p.ops cut) k2).cart,(gd (Qal p.ops cut) k2).item,(gd (Qal p.ops cut) k2).qty,(gd (Qal p.ops cut) k2).kind,(gd (Qal p.ops cut) k2).dot,QcT (gd (Qal p.ops cut) k2)⟩:Cen) L6,false,x29.1,x29.2,Qc7 ((gd (Qal p.ops cut) k2).cart) ((gd (Qal p.ops cut) k2).tick) T9,Qai (Qai (Qai (Qao (ds:=([8,9,12,13]++sq 51 39)) (by repeat (first|exact Agr.refl _ _|refine Agr.upd ?_ rfl|refine Agr.mix ?_ rfl))) rfl) rfl) rfl,(by omega),(Qrg hL6 (by omega) c34 c34r),(Qh8 hT9 (by omega)),(fun h=>nomatch h),(by rw [QhB];omega),rfl,hs.take 6⟩
   omega
  refine Qap (Qab (Qaa (Qac (V:=I6 (k2:Int)) rfl (Qaa (QaD (a:=(k2:Int)) (b:=1) (c:=((k2+1:Nat):Int)) rfl rfl (Qak (by omega) (by omega)) (Qaa (Qad (V:=I6 ((k2+1:Nat):Int)) rfl (Qaf ?_))))))))
  have ho:=hs.sel [0,1,2,3,4,7] (L':=[blk b1 (((vc p.base.known)++[(.slice a1 p.base.ents.length c1:Value),(.slice a2 p.base.ticks.length c2:Value) ])++[(.slice a3 p.ops.length c3:Value) ]++(vc p.known)) 31,blk b3 (vc cut) 24,blk b5 ((vc vzero)++[(.slice none 0 0:Value),(.slice none 0 0:Value) ]) 28,row (.slice x10.1 ((Qal p.ops cut).length) x10.2) ((Qal p.ops cut).map oc) 98 23,row (.slice a6 L6.length cb6) (L6.map cec) 119 7,row (.slice x29.1 ((Qc7 ((gd (Qal p.ops cut) k2).cart) ((gd (Qal p.ops cut) k2).tick) T9).length) x29.2) ((Qc7 ((gd (Qal p.ops cut) k2).cart) ((gd (Qal p.ops cut) k2).tick) T9).map lsc) 125 2]) (by decide) rfl
  replace hs:=ho
  refine ⟨_,?_,_,k2+1,a6,cb6,L6,false,x29.1,x29.2,Qc7 ((gd (Qal p.ops cut) k2).cart) ((gd (Qal p.ops cut) k2).tick) T9,Qai (Qai (Qai (Qao (ds:=([8,9,12,13]++sq 51 39)) (by repeat (first|exact Agr.refl _ _|refine Agr.upd ?_ rfl|refine Agr.mix ?_ rfl))) rfl) rfl) rfl,(by omega),(Qnz hL6 (by omega) c34),(Qh8 hT9 (by omega)),(fun h=>nomatch h),(by omega),rfl,hs.take 6⟩
  omega
 replace c25:=QQ2 c25
 refine QaH (Qag (Qab (Qaa (QaI (cs:=vc cut) Qbt hs 1 rfl rfl rfl (Qaa (Qac (V:=.slice a6 L6.length cb6) rfl (Qaa (Qac (V:=.slice a9 T9.length cb9) rfl (Qaa (Qcs (vs:=[(0,.agg (vc cut).toArray),(1,.slice a6 L6.length cb6),(2,.slice a9 T9.length cb9)]) (cs:=(vc cut)++[(.slice a6 L6.length cb6:Value),(.slice a9 T9.length cb9:Value) ]) [vc vzero,[(.slice none 0 0:Value)],[(.slice none 0 0:Value)]] [vc cut,[(.slice a6 L6.length cb6:Value)],[(.slice a9 T9.length cb9:Value)]] Qra rfl (rfl) rfl rfl (Qaa (Qcq (V:=.agg ((vc cut)++[(.slice a6 L6.length cb6:Value),(.slice a9 T9.length cb9:Value) ]).toArray) (vs:=(vc cut)++[(.slice a6 L6.length cb6:Value),(.slice a9 T9.length cb9:Value) ]) (cs':=(vc cut)++[(.slice a6 L6.length cb6:Value),(.slice a9 T9.length cb9:Value) ]) Qdj.1 hs 2 rfl rfl rfl rfl rfl (QQ8 rfl) (QbB (Qcd _) (Qat rfl (Qat rfl Qa9))) (Qay rfl) fun w40 hs=>(Qaa (Qad (V:=I6 0) rfl (Qaf (Qaw ?_))))))))))))))))
 refine ⟨_,QcM (cs:=(vc cut)++[(.slice a6 L6.length cb6:Value),(.slice a9 T9.length cb9:Value) ]) (V:=I6 0) Tryz.results14 Qdj hs 2 rfl rfl rfl rfl,?_⟩
 have hmz:=c8
 have hX:=Qlk hmz (by omega) hL6 hT9
 rw [hX,hmz]
 have ho:=hs.two 4 5 (by decide) rfl rfl
 exact ⟨(((a6,cb6),(a9,cb9)),z),rfl,ho,hz9⟩
end Tt
end Go.Proofs
namespace Go.Proofs
open Go Go.Vx Go.RowKit
namespace Tt
theorem Qsu (w:World) (x y:Cen):Calls Tryz.prog 128 #[.agg (cec x).toArray,.agg (cec y).toArray] w (fun e w'=>e = .returned (.int .i64 (Qst x y))/\Own w no w' []):=by
 refine Qaj (n:=26) Tryz.func128 rfl Tryz.ntmps128 rfl ?_
 have hs:=Own.start w
 refine Qag (Qab (Qaa (QaR (V:=.agg (cec x).toArray) (cs:=cec x) rfl rfl hs fun b1 w2 hs=>(Qaa (QaR (V:=.agg (cec y).toArray) (cs:=cec y) rfl rfl hs fun b3 w4 hs=>(Qaa (Qad (V:=I6 0) rfl (Qaf (Qag ?_)))))))))
 replace hs:=hs.more emp trivial
 refine QaJ HM [some 5,some 6,some 7,some 8,some 9,some 10,some 11,some 12,some 13,some 14,some 15,some 16,some 17,some 18,some 19,some 20,some 21,some 22,some 23,some 24,some 25,some 4] [[],[],[],[],[],[],[],[],[],[],[],[],[],[],[],[],[],[],[],[24]] [0,1,0,4,15,0,32,96,0,256,768,2047,0,4096,12288,0,32768,98304,262143,524287,1048575,2097151] [pv (Pq b1 (0+6)),pv (.int .u64 x.count),pv (Pq b3 (0+6)),pv (.int .u64 y.count),pv (I6 (Qa5 x.count y.count)),pv (Pq b1 (0+4)),pv (Pq b1 (0+4+0)),pv (.int .u8 x.dot.rep),pv (Pq b3 (0+4)),pv (Pq b3 (0+4+0)),pv (.int .u8 y.dot.rep),pv (I6 (Qa5 x.dot.rep y.dot.rep)),pv (Pq b1 (0+4)),pv (Pq b1 (0+4+1)),pv (.int .u32 x.dot.seq),pv (Pq b3 (0+4)),pv (Pq b3 (0+4+1)),pv (.int .u32 y.dot.seq),pv (I6 (Qa5 x.dot.seq y.dot.seq)),(true,fun J=>.slice (some ⟨(bOf (J 24)),0,none⟩) 3 3),pv (I6 (orI [Qa5 x.count y.count,Qa5 x.dot.rep y.dot.rep,Qa5 x.dot.seq y.dot.seq])),pv (I6 (orI [Qa5 x.count y.count,Qa5 x.dot.rep y.dot.rep,Qa5 x.dot.seq y.dot.seq]))] (fun D J=>[blk b1 (cec x) 106,blk b3 (cec y) 106,cond (D 19) (row (.slice (some ⟨(bOf (J 24)),0,none⟩) 3 3) ([Qa5 x.count y.count,Qa5 x.dot.rep y.dot.rep,Qa5 x.dot.seq y.dot.seq].map (ic .i64)) 3 1) (emp)]) [21] (by kernel_rfl) hs ⟨?_,?_,?_,?_,?_,?_,?_,?_,?_,?_,?_,?_,?_,?_,?_,?_,?_,?_,?_,?_,?_,?_,trivial⟩ ?_
 ·exact oa [] fun D J w hs=>Qae QfK rfl (Zz hs)
 ·exact oa [0] fun D J w hs=>QaF (V:=.int .u64 x.count) Qer hs 0 rfl rfl rfl (Zz hs)
 ·exact oa [] fun D J w hs=>Qae QfK rfl (Zz hs)
 ·exact oa [2] fun D J w hs=>QaF (V:=.int .u64 y.count) Qer hs 1 rfl rfl rfl (Zz hs)
 ·exact oa [1,3] fun D J w hs=>Qau (vs:=[.int .u64 x.count,.int .u64 y.count]) (V:=.int .i64 (Qa5 x.count y.count)) QsG rfl rfl (Qht _ x.count y.count) hs fun _ hs=>Zz hs
 ·exact oa [] fun D J w hs=>Qae QbO rfl (Zz hs)
 ·exact oa [5] fun D J w hs=>Qae QbH rfl (Zz hs)
 ·exact oa [6] fun D J w hs=>QaF (V:=.int .u8 x.dot.rep) QcJ hs 0 rfl rfl rfl (Zz hs)
 ·exact oa [] fun D J w hs=>Qae QbO rfl (Zz hs)
 ·exact oa [8] fun D J w hs=>Qae QbH rfl (Zz hs)
 ·exact oa [9] fun D J w hs=>QaF (V:=.int .u8 y.dot.rep) QcJ hs 1 rfl rfl rfl (Zz hs)
 ·exact oa [7,10] fun D J w hs=>Qau (vs:=[.int .u8 x.dot.rep,.int .u8 y.dot.rep]) (V:=.int .i64 (Qa5 x.dot.rep y.dot.rep)) Qqs rfl rfl (QdW _ x.dot.rep y.dot.rep) hs fun _ hs=>Zz hs
 ·exact oa [] fun D J w hs=>Qae QbO rfl (Zz hs)
 ·exact oa [12] fun D J w hs=>Qae QbR rfl (Zz hs)
 ·exact oa [13] fun D J w hs=>QaF (V:=.int .u32 x.dot.seq) Qa8 hs 0 rfl rfl rfl (Zz hs)
 ·exact oa [] fun D J w hs=>Qae QbO rfl (Zz hs)
 ·exact oa [15] fun D J w hs=>Qae QbR rfl (Zz hs)
 ·exact oa [16] fun D J w hs=>QaF (V:=.int .u32 y.dot.seq) Qa8 hs 1 rfl rfl rfl (Zz hs)
 ·exact oa [14,17] fun D J w hs=>Qau (vs:=[.int .u32 x.dot.seq,.int .u32 y.dot.seq]) (V:=.int .i64 (Qa5 x.dot.seq y.dot.seq)) QqO rfl rfl (QdG _ x.dot.seq y.dot.seq) hs fun _ hs=>Zz hs
 ·exact oa [4,11,18] fun D J w hs=>QeP (vals:=[.int .i64 (Qa5 x.count y.count),.int .i64 (Qa5 x.dot.rep y.dot.rep),.int .i64 (Qa5 x.dot.seq y.dot.seq)]) (ls:=List.map (ic .i64) ([Qa5 x.count y.count,Qa5 x.dot.rep y.dot.rep,Qa5 x.dot.seq y.dot.seq]:List Int)) Qlg rfl rfl rfl (Qbi (enc:=(ic .i64)) (fun _=>rfl) _) (QaL (QfA .i64) _) (QQ8 rfl) hs fun _ _ hs=>⟨rfl,hs.put 2 (QQ8 rfl)⟩
 ·exact oa [19] fun D J w hs=>Qau (vs:=[.slice (some ⟨(bOf (J 24)),0,none⟩) 3 3]) (V:=.int .i64 (orI [Qa5 x.count y.count,Qa5 x.dot.rep y.dot.rep,Qa5 x.dot.seq y.dot.seq])) QrQ rfl rfl (Qrj _ (some ⟨(bOf (J 24)),0,none⟩) 3 [Qa5 x.count y.count,Qa5 x.dot.rep y.dot.rep,Qa5 x.dot.seq y.dot.seq] (hs.rd 2 rfl)) hs fun _ hs=>Zz hs
 ·exact oa [20] fun D J w hs=>Qad (V:=.int .i64 (orI [Qa5 x.count y.count,Qa5 x.dot.rep y.dot.rep,Qa5 x.dot.seq y.dot.seq])) rfl (Zz hs)
 rintro J1 w10 J2 hJ hs
 replace hJ:J2=upd (mix (sq 5 21++[4]) J1 _) 4 (I6 (orI [Qa5 x.count y.count,Qa5 x.dot.rep y.dot.rep,Qa5 x.dot.seq y.dot.seq])):=hJ
 replace hs:Own w no w10 [blk b1 (cec x) 106,blk b3 (cec y) 106,row (.slice (some ⟨(bOf (J1 24)),0,none⟩) 3 3) ([Qa5 x.count y.count,Qa5 x.dot.rep y.dot.rep,Qa5 x.dot.seq y.dot.seq].map (ic .i64)) 3 1]:=hs
 generalize (bOf (J1 24))=b11 at hs
 subst hJ
 refine Qaw ?_
 refine ⟨_,Qaq (V:=I6 (orI [Qa5 x.count y.count,Qa5 x.dot.rep y.dot.rep,Qa5 x.dot.seq y.dot.seq])) Tryz.results128 rfl,(Zr hs ?_)⟩
 rfl
theorem Qom (w:World) (x y:Cen):Calls Tryz.prog 76 #[.agg (cec x).toArray,.agg (cec y).toArray] w (fun e w'=>e = .returned (.int .i64 (Qa5 x.item y.item))/\Own w no w' []):=by
 refine Qaj (n:=10) Tryz.func76 rfl Tryz.ntmps76 rfl ?_
 have hs:=Own.start w
 refine Qag (Qab (Qaa (QaR (V:=.agg (cec x).toArray) (cs:=cec x) rfl rfl hs fun b1 w2 hs=>(Qaa (QaR (V:=.agg (cec y).toArray) (cs:=cec y) rfl rfl hs fun b3 w4 hs=>(Qaa (Qad (V:=I6 0) rfl (Qaf (Qag (Qab (Qaa (Qae QdK rfl (Qaa (QaF (V:=I7 x.item) Qar hs 0 rfl rfl rfl (Qaa (Qae QdK rfl (Qaa (QaF (V:=I7 y.item) Qar hs 1 rfl rfl rfl (Qaa (Qau (vs:=[I7 x.item,I7 y.item]) (V:=I6 (Qa5 x.item y.item)) Qos rfl rfl ?hc hs fun w5 hs=>?_))))))))))))))))))))
 case hc=>exact (Qc0 _ x.item y.item)
 refine Qaa (Qad (V:=I6 (Qa5 x.item y.item)) rfl (Qaf (Qaw ?_)))
 refine ⟨_,Qaq (V:=I6 (Qa5 x.item y.item)) Tryz.results76 rfl,(Zr hs ?_)⟩
 rfl
theorem Qqg (w:World) (item:Int) (a:Option Addr) (c:Nat) (l:List Cen) (hl:∀ e∈l,QeM e/\1<=e.count) (hr:Rd w (.slice a l.length c) 7 (l.map cec)):Calls Tryz.prog 78 #[.int .u16 item,.slice a l.length c] w (fun e w'=>e = .returned (.agg (lc ⟨item,QcV l⟩).toArray)/\Own w no w' []):=by
 refine Qaj (n:=38) Tryz.func78 rfl Tryz.ntmps78 rfl ?_
 have hs:=Own.start w
 have hn1:=hr.sml
 refine Qag (Qab (Qaa (QaK (cs:=lc (⟨0,0⟩:Line)) QtI rfl hs fun b1 w2 hs=>(Qaf (Qag (Qab (Qaa (QaK (cs:=cec (⟨0,0,0,0,(⟨0,0⟩:Dot),0⟩:Cen)) Qf5 rfl hs fun b3 w4 hs=>(Qaf (Qag (Qab (Qaa (Qad (V:=.int .u32 0) rfl (Qaf (Qag (Qag (Qab (Qaa (Qac (V:=.slice a l.length c) rfl (Qaa (QaX (n:=l.length) QbI (Rd.own' hr hs) (by simp) rfl (Qaa (Qac (V:=I6 0) rfl (Qaf (Qam (QaA (fun J μ J' w'=>∃ (Jo:Env) (k:Nat) (sm:Int) (u:Cen),J'=upd (upd (mix ([6,8]++sq 11 20) Jo J) 11 (I6 (k:Int))) 6 (.int .u32 sm)/\(k<=l.length)/\(sm=QfQ (l.take k))/\(u=(l.take k).foldl QeH cz)/\μ=l.length-k/\Own w no w' [blk b1 (lc (⟨0,0⟩:Line)) 127,blk b3 (cec u) 106]) ?_ ?_))))))))))))))))))))))))))
 ·exact ⟨_,_,0,0,cz,Qai (Qai (Qao (ds:=([6,8]++sq 11 20)) (Agr.refl _ _)) rfl) rfl,(by omega),rfl,rfl,rfl,hs⟩
 rintro μ J' w5 ⟨Jo,k,sm,u,rfl,hk,hsm,hset,rfl,hs⟩
 refine Qag (Qab (Qaa (QaS rfl rfl (Qaf (Qag (Qan (t:=decide ((k:Int)<((l.length:Nat):Int))) rfl (fun c6=>?_) (fun c6=>?_)))))))
 ·
  replace c6:=QQ1 c6
  refine Qap (Qag (Qam (Qag (Qab (Qaa (Qax QbI QaG.1 (Rd.own' hr hs) rfl rfl (by omega) (by rw [QQ6];omega) (Qaa (QaV (j:=0) (vs:=cec (gd l k)) k QaG (Rd.own' hr hs) (QaW (by omega)) rfl rfl rfl (by omega) (Qaa (QaK (cs:=cec (⟨0,0,0,0,(⟨0,0⟩:Dot),0⟩:Cen)) Qf5 rfl hs fun b7 w8 hs=>(Qaa (Qcq (V:=.agg (cec (gd l k)).toArray) (vs:=cec (gd l k)) (cs':=cec (gd l k)) QaG.1 hs 2 rfl rfl rfl rfl rfl (QQ8 rfl) (Qa6 _) (Qay rfl) fun w9 hs=>?_))))))))))))
  replace hs:Own w no w9 [blk b1 (lc (⟨0,0⟩:Line)) 127,blk b3 (cec u) 106,blk b7 (cec (gd l k)) 106]:=hs
  refine Qaf (Qam (Qag (Qab (Qaa (Qae QeU rfl (Qaa (QaF (V:=.int .u8 ((gd l k).kind)) QcJ hs 2 rfl rfl rfl (Qaa (QaT rfl rfl (Qaa (Qad (V:=.bool (decide ((gd l k).kind=1))) rfl (Qaf (Qan (t:=decide ((gd l k).kind=1)) rfl (fun c10=>?_) (fun c10=>?_))))))))))))))
  ·
   replace c10:=QQ1 c10
   have ⟨hq1,hq2⟩:=(hl _ (QbP (l:=l) (i:=k) (by omega))).1.2.2.1
   refine Qab (Qaa (Qac (V:=.int .u32 sm) rfl (Qaa (Qae Qe1 rfl (Qaa (QaF (V:=I7 ((gd l k).qty)) Qar hs 2 rfl rfl rfl (Qaa (Qb4 QiZ QkR rfl (Qgv (by omega) (by omega)) (Qaa (QaD (a:=sm) (b:=(gd l k).qty) (c:=(sm+((gd l k).qty))%4294967296) rfl rfl (Qka _) (Qaa (Qad (V:=.int .u32 ((sm+((gd l k).qty))%4294967296)) rfl (Qaf (Qab (Qaa (QaD (a:=(k:Int)) (b:=1) (c:=((k+1:Nat):Int)) rfl rfl (Qak (by omega) (by omega)) (Qaa (Qac (V:=I6 ((k+1:Nat):Int)) rfl (Qaf ?_)))))))))))))))))))
   refine ⟨_,?_,_,k+1,(sm+((gd l k).qty))%4294967296,u,Qai (Qai (Qao (ds:=([6,8]++sq 11 20)) (by repeat (first|exact Agr.refl _ _|refine Agr.upd ?_ rfl|refine Agr.mix ?_ rfl))) rfl) rfl,(by omega),(Qpo hsm (by omega) c10),(by rw [← Qgj hset (by omega),Qmo c10]),rfl,hs.take 2⟩
   omega
  replace c10:=QQ2 c10
  refine Qag (Qab (Qaa (QaI (cs:=cec (gd l k)) QaG hs 2 rfl rfl rfl (Qaa (QaI (cs:=cec u) QaG hs 1 rfl rfl rfl (Qaa (Qau (vs:=[.agg (cec (gd l k)).toArray,.agg (cec u).toArray]) (V:=I6 (Qst (gd l k) u)) Qs1 rfl rfl ?hc hs fun w11 hs=>?_)))))))
  case hc=>exact (Qsu _ (gd l k) u)
  refine Qaa (Qbk (V:=.bool (decide (0<Qst (gd l k) u))) (V':=.bool (Qcp u (gd l k))) (QbW rfl rfl ⟨rfl,rfl⟩) (congrArg Value.bool (Qtr _ _)) (Qaa (Qad (V:=.bool (Qcp u (gd l k))) rfl (Qaf (Qan (t:=Qcp u (gd l k)) rfl (fun c12=>?_) (fun c12=>?_))))))
  ·
   refine Qab (Qaa (QaI (cs:=cec (gd l k)) QaG hs 2 rfl rfl rfl (Qaa (Qcq (V:=.agg (cec (gd l k)).toArray) (vs:=cec (gd l k)) (cs':=cec (gd l k)) QaG.1 hs 1 rfl rfl rfl rfl rfl (QQ8 rfl) (Qa6 _) (Qay rfl) fun w13 hs=>(Qaf (Qab (Qaa (QaD (a:=(k:Int)) (b:=1) (c:=((k+1:Nat):Int)) rfl rfl (Qak (by omega) (by omega)) (Qaa (Qac (V:=I6 ((k+1:Nat):Int)) rfl (Qaf ?_)))))))))))
   refine ⟨_,?_,_,k+1,sm,gd l k,Qai (Qai (Qao (ds:=([6,8]++sq 11 20)) (by repeat (first|exact Agr.refl _ _|refine Agr.upd ?_ rfl|refine Agr.mix ?_ rfl))) rfl) rfl,(by omega),(Qnf hsm (by omega) c10),(by rw [← Qgj hset (by omega),Qo5 c10 c12]),rfl,hs.take 2⟩
   omega
  refine Qap (Qab (Qaa (QaD (a:=(k:Int)) (b:=1) (c:=((k+1:Nat):Int)) rfl rfl (Qak (by omega) (by omega)) (Qaa (Qac (V:=I6 ((k+1:Nat):Int)) rfl (Qaf ?_))))))
  refine ⟨_,?_,_,k+1,sm,u,Qai (Qai (Qao (ds:=([6,8]++sq 11 20)) (by repeat (first|exact Agr.refl _ _|refine Agr.upd ?_ rfl|refine Agr.mix ?_ rfl))) rfl) rfl,(by omega),(Qnf hsm (by omega) c10),(by rw [← Qgj hset (by omega),QqY c10 c12]),rfl,hs.take 2⟩
  omega
 replace c6:=QQ2 c6
 refine QaH (Qag ?_)
 have ⟨hq1,hq2⟩:0<=u.qty/\u.qty<65536:=by rw [hset];exact Qn9 fun e he=>(hl e (List.mem_of_mem_take he)).1
 refine Qab (Qaa (Qac (V:=I7 item) rfl (Qaa (Qac (V:=.int .u32 sm) rfl (Qaa (Qae Qe1 rfl (Qaa (QaF (V:=I7 u.qty) Qar hs 1 rfl rfl rfl (Qaa (Qb4 QiZ QkR rfl (Qgv (by omega) (by omega)) (Qaa (QaD (a:=sm) (b:=u.qty) (c:=(sm+u.qty)%4294967296) rfl rfl (Qka _) (Qaa (Qby (vs:=[(0,I7 item),(1,.int .u32 ((sm+u.qty)%4294967296))]) (cs:=lc (⟨item,(sm+u.qty)%4294967296⟩:Line)) QpU (rfl) rfl (Qaa (Qcq (V:=.agg (lc (⟨item,(sm+u.qty)%4294967296⟩:Line)).toArray) (vs:=lc (⟨item,(sm+u.qty)%4294967296⟩:Line)) (cs':=lc (⟨item,(sm+u.qty)%4294967296⟩:Line)) Qcf.1 hs 0 rfl rfl rfl rfl rfl (QQ8 rfl) (Qis _) (Qay rfl) fun w14 hs=>(Qaf (Qaw ?_))))))))))))))))))
 refine ⟨_,QcB (cs:=lc (⟨item,(sm+u.qty)%4294967296⟩:Line)) Tryz.results78 Qcf hs 0 rfl rfl rfl,(Zr hs ?_)⟩
 have hT:=Qck (l:=l) (k:=k) (by omega)
 rw [hT] at hsm hset
 subst hsm hset
 rw [QnN fun e he=>(hl e he).2]
end Tt
end Go.Proofs
namespace Go.Proofs
open Go Go.Vx Go.RowKit
namespace Tt
theorem QpV (w:World) (S:Nat->Prop) (a:Option Addr) (N c:Nat) (l:List Cen) (hz:l.length=N) (hN:N<=2305843009213693951) (lo hi:Nat) (hlo:lo<=hi) (hhi:hi<=N) (g:Nat) (hg:En Tryz.prog g) (cf:Cen->Cen->Int) (hc:CmpO cf) (hcmp:∀ (w:World) (x y:Cen),Calls Tryz.prog g #[.agg (cec x).toArray,.agg (cec y).toArray] w (fun e w'=>e = .returned (.int .i64 (cf x y))/\Own w no w' [])) (hR:(row (.slice a N c) (l.map cec) 106 7).holds w S) (hlt:∀ b,S b->b<w.heap.size):Calls Tryz.prog 136 #[.slice a N c,.int .i64 (lo:Int),.int .i64 (hi:Int),.func (.func g) #[] #[]] w (fun e w'=>∃ x:List Cen,e = .returned (.tuple #[])/\Own w S w' [row (.slice a N c) (x.map cec) 106 7]/\(x.length=N/\Merged cf l x lo hi)):=by
 refine Qaj (n:=53) Tryz.func136 rfl Tryz.ntmps136 rfl ?_
 have hs:=Own.lent hR hlt
 refine Qag (Qab (Qaa (Qac (V:=I6 (lo:Int)) rfl (Qaa (QaD (a:=(lo:Int)) (b:=1) (c:=((lo+1:Nat):Int)) rfl rfl (Qak (by omega) (by omega)) (Qaa (Qad (V:=I6 ((lo+1:Nat):Int)) rfl (Qaf (Qam (QaA (fun J μ J' w'=>∃ (Jo:Env) (k:Nat) (m:List Cen),J'=upd (mix ([8,9]++sq 12 41) Jo J) 8 (I6 (k:Int))/\(lo+1<=k)/\(k<=hi∨k=lo+1)/\(m.length=N)/\(Qbh l m lo hi)/\(Qbj cf m lo k)/\μ=hi-k/\Own w S w' [row (.slice a N c) (m.map cec) 106 7]) ?_ ?_))))))))))
 ·exact ⟨_,_,lo+1,l,Qai (Qao (ds:=([8,9]++sq 12 41)) (Agr.refl _ _)) rfl,(Nat.le_refl _),(Or.inr rfl),hz,(Qbh.refl l hlo (by omega)),(Qbj.small (Nat.le_refl _)),rfl,hs⟩
 rintro μ J' w1 ⟨Jo,k,m,rfl,hk0,hk,hz1,hpm,hor,rfl,hs⟩
 refine Qag (Qag (Qab (Qaa (Qac (V:=I6 (k:Int)) rfl (Qaa (Qac (V:=I6 (hi:Int)) rfl (Qaa (QaS rfl rfl (Qaf (Qan (t:=decide ((k:Int)<(hi:Int))) rfl (fun c2=>?_) (fun c2=>?_)))))))))))
 ·
  replace c2:=QQ1 c2
  refine Qap (Qag (Qam (Qag (Qab (Qaa (Qac (V:=I6 (k:Int)) rfl (Qaa (Qad (V:=I6 (k:Int)) rfl (Qaf (Qam (QaA (fun J μ J' w'=>∃ (Jo:Env) (j:Nat) (m2:List Cen),J'=upd (mix ([9]++sq 18 35) Jo J) 9 (I6 (j:Int))/\(lo<=j)/\(j<=k)/\(m2.length=N)/\(Qbh l m2 lo hi)/\(Qsy cf m2 lo k j)/\μ=j+1/\Own w S w' [row (.slice a N c) (m2.map cec) 106 7]) ?_ ?_)))))))))))
  ·exact ⟨_,_,k,m,Qai (Qao (ds:=([9]++sq 18 35)) (Agr.refl _ _)) rfl,(by omega),(Nat.le_refl _),hz1,hpm,(Qme hor),rfl,hs⟩
  rintro μ J' w3 ⟨Jo,j,m2,rfl,hj0,hj,hz2,hpm2,hin,rfl,hs⟩
  refine Qag (Qag (QaJ HM [some 18,some 19,some 20,some 21,some 22,some 23,some 24,some 25,some 26,some 27,some 28,some 29,some 30,some 31,some 32,some 33,some 34] [] [0,0,3,7,15,15,15,111,239,15,15,1039,3599,7695,16383,32767,65535] [pv (I6 (j:Int)),pv (I6 (lo:Int)),pv (.bool (decide ((lo:Int)<(j:Int)))),pv (.bool (decide ((lo:Int)<(j:Int)))),pg ((decide ((lo:Int)<(j:Int))) == true) (.func (.func g) #[] #[]),pg ((decide ((lo:Int)<(j:Int))) == true) (.slice a N c),pg ((decide ((lo:Int)<(j:Int))) == true) (I6 (j:Int)),pg ((decide ((lo:Int)<(j:Int))) == true) (.pointer (some ⟨bkS (.slice a N c),ofS (.slice a N c)+(j:Int).toNat*7,none⟩)),pg ((decide ((lo:Int)<(j:Int))) == true) (.agg (cec (gd m2 j)).toArray),pg ((decide ((lo:Int)<(j:Int))) == true) (.slice a N c),pg ((decide ((lo:Int)<(j:Int))) == true) (I6 (j:Int)),pg ((decide ((lo:Int)<(j:Int))) == true) (I6 ((j-1:Nat):Int)),pg ((decide ((lo:Int)<(j:Int))) == true) (.pointer (some ⟨bkS (.slice a N c),ofS (.slice a N c)+((j-1:Nat):Int).toNat*7,none⟩)),pg ((decide ((lo:Int)<(j:Int))) == true) (.agg (cec (gd m2 (j-1))).toArray),pg ((decide ((lo:Int)<(j:Int))) == true) (I6 (cf (gd m2 j) (gd m2 (j-1)))),pg ((decide ((lo:Int)<(j:Int))) == true) (.bool (decide (cf (gd m2 j) (gd m2 (j-1))<0))),pv (.bool ((decide ((lo:Int)<(j:Int)))&&(decide (cf (gd m2 j) (gd m2 (j-1))<0))))] (fun _ _=>_) [16] (by kernel_rfl) hs ⟨?_,?_,?_,?_,?_,?_,?_,?_,?_,?_,?_,?_,?_,?_,?_,?_,?_,trivial⟩ ?_))
  ·exact oa [] fun D J w hs=>Qac (V:=.int .i64 (j:Int)) rfl (Zz hs)
  ·exact oa [] fun D J w hs=>Qac (V:=.int .i64 (lo:Int)) rfl (Zz hs)
  ·exact oa [0,1] fun D J w hs=>QbW rfl rfl (Zz hs)
  ·exact oa [2] fun D J w hs=>Qac (V:=.bool (decide ((lo:Int)<(j:Int)))) rfl (Zz hs)
  ·exact og [3] fun D J w hG hs=>Qac (V:=.func (.func g) #[] #[]) rfl (Zz hs)
  ·exact og [3] fun D J w hG hs=>Qac (V:=.slice a N c) rfl (Zz hs)
  ·exact og [3] fun D J w hG hs=>Qac (V:=.int .i64 (j:Int)) rfl (Zz hs)
  ·refine oy [3,5,6] [5,6] fun D J w hG hs=>?_
   have hgd:=QQ1 (eq_of_beq (hG))
   exact Qax QbI QaG.1 (hs.rd 0 rfl) rfl rfl (by omega) (by rw [QQ6];omega) (Zz hs)
  ·refine oy [3,7] [7] fun D J w hG hs=>?_
   have hgd:=QQ1 (eq_of_beq (hG))
   exact QaV (j:=0) (vs:=cec (gd m2 j)) j QaG (hs.rd 0 rfl) (QaW (by omega)) rfl rfl rfl (by omega) (Zz hs)
  ·exact og [3] fun D J w hG hs=>Qac (V:=.slice a N c) rfl (Zz hs)
  ·exact og [3] fun D J w hG hs=>Qac (V:=.int .i64 (j:Int)) rfl (Zz hs)
  ·refine oy [3,10] [10] fun D J w hG hs=>?_
   have hgd:=QQ1 (eq_of_beq (hG))
   exact Qba (a:=(j:Int)) (b:=1) (c:=((j-1:Nat):Int)) rfl rfl (Qak (by omega) (by omega)) (Zz hs)
  ·refine oy [3,9,11] [9,11] fun D J w hG hs=>?_
   have hgd:=QQ1 (eq_of_beq (hG))
   exact Qax QbI QaG.1 (hs.rd 0 rfl) rfl rfl (by omega) (by rw [QQ6];omega) (Zz hs)
  ·refine oy [3,12] [12] fun D J w hG hs=>?_
   have hgd:=QQ1 (eq_of_beq (hG))
   exact QaV (j:=0) (vs:=cec (gd m2 (j-1))) (j-1) QaG (hs.rd 0 rfl) (QaW (by omega)) rfl rfl rfl (by omega) (Zz hs)
  ·exact oy [3,4,8,13] [4,8,13] fun D J w hG hs=>Qf1 (vs:=[.agg (cec (gd m2 j)).toArray,.agg (cec (gd m2 (j-1))).toArray]) (cs:=[]) (V:=.int .i64 (cf (gd m2 j) (gd m2 (j-1)))) hg rfl rfl (hcmp _ (gd m2 j) (gd m2 (j-1))) hs fun _ hs=>Zz hs
  ·exact oy [3,14] [14] fun D J w hG hs=>QaS rfl rfl (Zz hs)
  ·exact oa [3,15] fun D J w hs=>Qa7 (h':=decide (cf (gd m2 j) (gd m2 (j-1))<0)) rfl rfl rfl (Zz hs)
  rintro J1 w5 J2 hJ hs
  replace hJ:J2=upd (mix (sq 18 17) J1 _) 34 (.bool ((decide ((lo:Int)<(j:Int)))&&(decide (cf (gd m2 j) (gd m2 (j-1))<0)))):=hJ
  subst hJ
  refine Qan (t:=(decide ((lo:Int)<(j:Int)))&&(decide (cf (gd m2 j) (gd m2 (j-1))<0))) rfl (fun c6=>?_) (fun c6=>?_)
  ·
   have c6r:=QbG c6
   replace c6:=QbC c6
   replace c6:=QQ1 c6
   replace c6r:=QQ1 c6r
   refine Qap (Qag (Qam (QaJ HM [some 37,some 38,some 39,some 40,some 41,some 42,some 43,some 44,some 45,some 46,some 47,some 48,some 49,some 50,some 51,none,some 52,none] [] [0,0,0,0,8,0,0,64,224,480,0,0,3072,7168,16355,32739,65535,131071] [pv (.slice a N c),pv (I6 (j:Int)),pv (.slice a N c),pv (I6 (j:Int)),pv (I6 ((j-1:Nat):Int)),pv (.slice a N c),pv (I6 (j:Int)),pv (I6 ((j-1:Nat):Int)),pv (.pointer (some ⟨bkS (.slice a N c),ofS (.slice a N c)+((j-1:Nat):Int).toNat*7,none⟩)),pv (.agg (cec (gd m2 (j-1))).toArray),pv (.slice a N c),pv (I6 (j:Int)),pv (.pointer (some ⟨bkS (.slice a N c),ofS (.slice a N c)+(j:Int).toNat*7,none⟩)),pv (.agg (cec (gd m2 j)).toArray),pv (.pointer (some ⟨bkS (.slice a N c),ofS (.slice a N c)+(j:Int).toNat*7,none⟩)),pn,pv (.pointer (some ⟨bkS (.slice a N c),ofS (.slice a N c)+((j-1:Nat):Int).toNat*7,none⟩)),pn] (fun D J=>[cond (D 17) (row (.slice a N c) (((m2.set j (gd m2 (j-1))).set (j-1) (gd m2 j)).map cec) 106 7) (cond (D 15) (row (.slice a N c) ((m2.set j (gd m2 (j-1))).map cec) 106 7) (row (.slice a N c) (m2.map cec) 106 7))]) [] (by kernel_rfl) hs ⟨?_,?_,?_,?_,?_,?_,?_,?_,?_,?_,?_,?_,?_,?_,?_,?_,?_,?_,trivial⟩ ?_)))
   ·exact oa [] fun D J w hs=>Qac (V:=.slice a N c) rfl (Zz hs)
   ·exact oa [] fun D J w hs=>Qac (V:=.int .i64 (j:Int)) rfl (Zz hs)
   ·exact oa [] fun D J w hs=>Qac (V:=.slice a N c) rfl (Zz hs)
   ·exact oa [] fun D J w hs=>Qac (V:=.int .i64 (j:Int)) rfl (Zz hs)
   ·exact oa [3] fun D J w hs=>Qba (a:=(j:Int)) (b:=1) (c:=((j-1:Nat):Int)) rfl rfl (Qak (by omega) (by omega)) (Zz hs)
   ·exact oa [] fun D J w hs=>Qac (V:=.slice a N c) rfl (Zz hs)
   ·exact oa [] fun D J w hs=>Qac (V:=.int .i64 (j:Int)) rfl (Zz hs)
   ·exact oa [6] fun D J w hs=>Qba (a:=(j:Int)) (b:=1) (c:=((j-1:Nat):Int)) rfl rfl (Qak (by omega) (by omega)) (Zz hs)
   ·exact ob [5,7] [15,17] rfl rfl fun D J w hs=>Qax QbI QaG.1 (hs.rd 0 rfl) rfl rfl (by omega) (by rw [QQ6];omega) (Zz hs)
   ·exact ob [8] [15,17] rfl rfl fun D J w hs=>QaV (j:=0) (vs:=cec (gd m2 (j-1))) (j-1) QaG (hs.rd 0 rfl) (QaW (by omega)) rfl rfl rfl (by omega) (Zz hs)
   ·exact oa [] fun D J w hs=>Qac (V:=.slice a N c) rfl (Zz hs)
   ·exact oa [] fun D J w hs=>Qac (V:=.int .i64 (j:Int)) rfl (Zz hs)
   ·exact ob [10,11] [15,17] rfl rfl fun D J w hs=>Qax QbI QaG.1 (hs.rd 0 rfl) rfl rfl (by omega) (by rw [QQ6];omega) (Zz hs)
   ·exact ob [12] [15,17] rfl rfl fun D J w hs=>QaV (j:=0) (vs:=cec (gd m2 j)) j QaG (hs.rd 0 rfl) (QaW (by omega)) rfl rfl rfl (by omega) (Zz hs)
   ·exact ob [0,1] [15,17] rfl rfl fun D J w hs=>Qax QbI QaG.1 (hs.rd 0 rfl) rfl rfl (by omega) (by rw [QQ6];omega) (Zz hs)
   ·exact ob [9,14] [17] rfl rfl fun D J w hs=>QhP (z:=gd m2 (j-1)) j QaG.1 hs 0 rfl rfl rfl (by first|omega|(simp only [List.length_set];omega)) rfl rfl rfl (Qa6 _) fun _ hs=>⟨trivial,hs⟩
   ·exact ob [2,4,15] [17] rfl rfl fun D J w hs=>Qax QbI QaG.1 (hs.rd 0 rfl) rfl rfl (by omega) (by simp only [QQ6,List.length_set];omega) (Zz hs)
   ·exact oa [13,15,16] fun D J w hs=>QhP (z:=gd m2 j) (j-1) QaG.1 hs 0 rfl rfl rfl (by first|omega|(simp only [List.length_set];omega)) rfl rfl rfl (Qa6 _) fun _ hs=>⟨trivial,hs⟩
   rintro J1 w9 J2 hJ hs
   replace hJ:J2=mix (sq 37 16) J1 _:=hJ
   replace hs:Own w S w9 [row (.slice a N c) (((m2.set j (gd m2 (j-1))).set (j-1) (gd m2 j)).map cec) 106 7]:=hs
   subst hJ
   replace hs:Own w S _ [row (.slice a N c) ((swL m2 j (j-1)).map cec) 106 7]:=hs.take 1
   refine Qab (Qaa (Qac (V:=I6 (j:Int)) rfl (Qaa (Qba (a:=(j:Int)) (b:=1) (c:=((j-1:Nat):Int)) rfl rfl (Qak (by omega) (by omega)) (Qaa (Qad (V:=I6 ((j-1:Nat):Int)) rfl (Qaf ?_)))))))
   refine ⟨_,?_,_,j-1,swL m2 j (j-1),Qai (Qao (ds:=([9]++sq 18 35)) (by repeat (first|exact Agr.refl _ _|refine Agr.upd ?_ rfl|refine Agr.mix ?_ rfl))) rfl,(by omega),(by omega),(by rw [QhT];exact hz2),(hpm2.trans (Qrc (by omega) (by omega) (by omega) (by omega) (by omega))),(QoU hc hin (by omega) (by omega) (by omega) c6r),rfl,hs.take 1⟩
   omega
  refine QaH ?_
  have hor2:Qbj cf m2 lo (k+1):=Qqx hc hin hj0 (by
      have ht:=c6
      rcases Nat.lt_or_ge lo j with q|q
      ·right;intro h;simp [q,h] at ht
      ·left;omega)
  refine Qab (Qaa (Qac (V:=I6 (k:Int)) rfl (Qaa (QaD (a:=(k:Int)) (b:=1) (c:=((k+1:Nat):Int)) rfl rfl (Qak (by omega) (by omega)) (Qaa (Qad (V:=I6 ((k+1:Nat):Int)) rfl (Qaf ?_)))))))
  refine ⟨_,?_,_,k+1,m2,Qai (Qao (ds:=([8,9]++sq 12 41)) (by repeat (first|exact Agr.refl _ _|refine Agr.upd ?_ rfl|refine Agr.mix ?_ rfl))) rfl,(by omega),(by omega),hz2,hpm2,hor2,rfl,hs.take 1⟩
  omega
 replace c2:=QQ2 c2
 refine QaH ?_
 refine ⟨_,Qbr Tryz.results136,?_⟩
 refine ⟨m,rfl,hs.take 1,hz1,hpm,?_⟩
 rcases Nat.lt_or_ge k hi with q|q
 ·omega
 exact hor.sub (Nat.le_refl _) q
end Tt
end Go.Proofs
namespace Go.Proofs
open Go Go.Vx Go.RowKit
namespace Tt
theorem Qm3 (w:World) (S:Nat->Prop) (a:Option Addr) (N c:Nat) (l:List Cen) (hz:l.length=N) (hN:N<=2305843009213693951) (p q n:Nat) (hp:p+n<=N) (hq:q+n<=N) (g:Nat) (hg:En Tryz.prog g) (cf:Cen->Cen->Int) (hc:CmpO cf) (hcmp:∀ (w:World) (x y:Cen),Calls Tryz.prog g #[.agg (cec x).toArray,.agg (cec y).toArray] w (fun e w'=>e = .returned (.int .i64 (cf x y))/\Own w no w' [])) (hR:(row (.slice a N c) (l.map cec) 106 7).holds w S) (hlt:∀ b,S b->b<w.heap.size):Calls Tryz.prog 184 #[.slice a N c,.int .i64 (p:Int),.int .i64 (q:Int),.int .i64 (n:Int),.func (.func g) #[] #[]] w (fun e w'=>∃ x:List Cen,e = .returned (.tuple #[])/\Own w S w' [row (.slice a N c) (x.map cec) 106 7]/\(x.length=N/\x=swN l p q n)):=by
 refine Qaj (n:=38) Tryz.func184 rfl Tryz.ntmps184 rfl ?_
 have hs:=Own.lent hR hlt
 refine Qag (Qab (Qaa (Qad (V:=I6 0) rfl (Qaf (Qam (QaA (fun J μ J' w'=>∃ (Jo:Env) (k:Nat) (m:List Cen),J'=upd (mix (sq 10 28) Jo J) 10 (I6 (k:Int))/\(k<=n)/\(m.length=N)/\(m=swN l p q k)/\μ=n-k/\Own w S w' [row (.slice a N c) (m.map cec) 106 7]) ?_ ?_))))))
 ·exact ⟨_,_,0,l,Qai (Qao (ds:=(sq 10 28)) (Agr.refl _ _)) rfl,(Nat.zero_le _),hz,rfl,rfl,hs⟩
 rintro μ J' w1 ⟨Jo,k,m,rfl,hk,hz1,hm,rfl,hs⟩
 refine Qag (Qag (Qab (Qaa (Qac (V:=I6 (k:Int)) rfl (Qaa (Qac (V:=I6 (n:Int)) rfl (Qaa (QaS rfl rfl (Qaf (Qan (t:=decide ((k:Int)<(n:Int))) rfl (fun c2=>?_) (fun c2=>?_)))))))))))
 ·
  replace c2:=QQ1 c2
  refine Qap (Qag (Qam (QaJ HM [some 16,some 17,some 18,some 19,some 20,some 21,some 22,some 23,some 24,some 25,some 26,some 27,some 28,some 29,some 30,some 31,some 32,some 33,some 34,some 35,some 36,none,some 37,none] [] [0,0,0,6,0,0,0,96,0,0,0,1536,3840,7936,0,0,0,98304,245760,507904,1048335,2096911,4194303,8388607] [pv (.slice a N c),pv (I6 (p:Int)),pv (I6 (k:Int)),pv (I6 ((p+k:Nat):Int)),pv (.slice a N c),pv (I6 (q:Int)),pv (I6 (k:Int)),pv (I6 ((q+k:Nat):Int)),pv (.slice a N c),pv (I6 (q:Int)),pv (I6 (k:Int)),pv (I6 ((q+k:Nat):Int)),pv (.pointer (some ⟨bkS (.slice a N c),ofS (.slice a N c)+((q+k:Nat):Int).toNat*7,none⟩)),pv (.agg (cec (gd m (q+k))).toArray),pv (.slice a N c),pv (I6 (p:Int)),pv (I6 (k:Int)),pv (I6 ((p+k:Nat):Int)),pv (.pointer (some ⟨bkS (.slice a N c),ofS (.slice a N c)+((p+k:Nat):Int).toNat*7,none⟩)),pv (.agg (cec (gd m (p+k))).toArray),pv (.pointer (some ⟨bkS (.slice a N c),ofS (.slice a N c)+((p+k:Nat):Int).toNat*7,none⟩)),pn,pv (.pointer (some ⟨bkS (.slice a N c),ofS (.slice a N c)+((q+k:Nat):Int).toNat*7,none⟩)),pn] (fun D J=>[cond (D 23) (row (.slice a N c) (((m.set (p+k) (gd m (q+k))).set (q+k) (gd m (p+k))).map cec) 106 7) (cond (D 21) (row (.slice a N c) ((m.set (p+k) (gd m (q+k))).map cec) 106 7) (row (.slice a N c) (m.map cec) 106 7))]) [] (by kernel_rfl) hs ⟨?_,?_,?_,?_,?_,?_,?_,?_,?_,?_,?_,?_,?_,?_,?_,?_,?_,?_,?_,?_,?_,?_,?_,?_,trivial⟩ ?_)))
  ·exact oa [] fun D J w hs=>Qac (V:=.slice a N c) rfl (Zz hs)
  ·exact oa [] fun D J w hs=>Qac (V:=.int .i64 (p:Int)) rfl (Zz hs)
  ·exact oa [] fun D J w hs=>Qac (V:=.int .i64 (k:Int)) rfl (Zz hs)
  ·exact oa [1,2] fun D J w hs=>QaD (a:=(p:Int)) (b:=(k:Int)) (c:=((p+k:Nat):Int)) rfl rfl (Qak (by omega) (by omega)) (Zz hs)
  ·exact oa [] fun D J w hs=>Qac (V:=.slice a N c) rfl (Zz hs)
  ·exact oa [] fun D J w hs=>Qac (V:=.int .i64 (q:Int)) rfl (Zz hs)
  ·exact oa [] fun D J w hs=>Qac (V:=.int .i64 (k:Int)) rfl (Zz hs)
  ·exact oa [5,6] fun D J w hs=>QaD (a:=(q:Int)) (b:=(k:Int)) (c:=((q+k:Nat):Int)) rfl rfl (Qak (by omega) (by omega)) (Zz hs)
  ·exact oa [] fun D J w hs=>Qac (V:=.slice a N c) rfl (Zz hs)
  ·exact oa [] fun D J w hs=>Qac (V:=.int .i64 (q:Int)) rfl (Zz hs)
  ·exact oa [] fun D J w hs=>Qac (V:=.int .i64 (k:Int)) rfl (Zz hs)
  ·exact oa [9,10] fun D J w hs=>QaD (a:=(q:Int)) (b:=(k:Int)) (c:=((q+k:Nat):Int)) rfl rfl (Qak (by omega) (by omega)) (Zz hs)
  ·exact ob [8,11] [21,23] rfl rfl fun D J w hs=>Qax QbI QaG.1 (hs.rd 0 rfl) rfl rfl (by omega) (by rw [QQ6];omega) (Zz hs)
  ·exact ob [12] [21,23] rfl rfl fun D J w hs=>QaV (j:=0) (vs:=cec (gd m (q+k))) (q+k) QaG (hs.rd 0 rfl) (QaW (by omega)) rfl rfl rfl (by omega) (Zz hs)
  ·exact oa [] fun D J w hs=>Qac (V:=.slice a N c) rfl (Zz hs)
  ·exact oa [] fun D J w hs=>Qac (V:=.int .i64 (p:Int)) rfl (Zz hs)
  ·exact oa [] fun D J w hs=>Qac (V:=.int .i64 (k:Int)) rfl (Zz hs)
  ·exact oa [15,16] fun D J w hs=>QaD (a:=(p:Int)) (b:=(k:Int)) (c:=((p+k:Nat):Int)) rfl rfl (Qak (by omega) (by omega)) (Zz hs)
  ·exact ob [14,17] [21,23] rfl rfl fun D J w hs=>Qax QbI QaG.1 (hs.rd 0 rfl) rfl rfl (by omega) (by rw [QQ6];omega) (Zz hs)
  ·exact ob [18] [21,23] rfl rfl fun D J w hs=>QaV (j:=0) (vs:=cec (gd m (p+k))) (p+k) QaG (hs.rd 0 rfl) (QaW (by omega)) rfl rfl rfl (by omega) (Zz hs)
  ·exact ob [0,3] [21,23] rfl rfl fun D J w hs=>Qax QbI QaG.1 (hs.rd 0 rfl) rfl rfl (by omega) (by rw [QQ6];omega) (Zz hs)
  ·exact ob [13,20] [23] rfl rfl fun D J w hs=>QhP (z:=gd m (q+k)) (p+k) QaG.1 hs 0 rfl rfl rfl (by first|omega|(simp only [List.length_set];omega)) rfl rfl rfl (Qa6 _) fun _ hs=>⟨trivial,hs⟩
  ·exact ob [4,7,21] [23] rfl rfl fun D J w hs=>Qax QbI QaG.1 (hs.rd 0 rfl) rfl rfl (by omega) (by simp only [QQ6,List.length_set];omega) (Zz hs)
  ·exact oa [19,21,22] fun D J w hs=>QhP (z:=gd m (p+k)) (q+k) QaG.1 hs 0 rfl rfl rfl (by first|omega|(simp only [List.length_set];omega)) rfl rfl rfl (Qa6 _) fun _ hs=>⟨trivial,hs⟩
  rintro J1 w5 J2 hJ hs
  replace hJ:J2=mix (sq 16 22) J1 _:=hJ
  replace hs:Own w S w5 [row (.slice a N c) (((m.set (p+k) (gd m (q+k))).set (q+k) (gd m (p+k))).map cec) 106 7]:=hs
  subst hJ
  replace hs:Own w S _ [row (.slice a N c) ((swL m (p+k) (q+k)).map cec) 106 7]:=hs.take 1
  refine Qab (Qaa (Qac (V:=I6 (k:Int)) rfl (Qaa (QaD (a:=(k:Int)) (b:=1) (c:=((k+1:Nat):Int)) rfl rfl (Qak (by omega) (by omega)) (Qaa (Qad (V:=I6 ((k+1:Nat):Int)) rfl (Qaf ?_)))))))
  refine ⟨_,?_,_,k+1,swL m (p+k) (q+k),Qai (Qao (ds:=(sq 10 28)) (by repeat (first|exact Agr.refl _ _|refine Agr.upd ?_ rfl|refine Agr.mix ?_ rfl))) rfl,(by omega),(by rw [QhT];exact hz1),(by rw [Qkl,← hm]),rfl,hs.take 1⟩
  omega
 replace c2:=QQ2 c2
 refine QaH ?_
 refine ⟨_,Qbr Tryz.results184,?_⟩
 exact ⟨m,rfl,hs.take 1,hz1,by rw [hm,show k=n by omega]⟩
theorem Qtm (w:World) (S:Nat->Prop) (a:Option Addr) (N c:Nat) (l:List Cen) (hz:l.length=N) (hN:N<=2305843009213693951) (lo mid hi:Nat) (h1:lo<mid) (h2:mid<hi) (h3:hi<=N) (g:Nat) (hg:En Tryz.prog g) (cf:Cen->Cen->Int) (hc:CmpO cf) (hcmp:∀ (w:World) (x y:Cen),Calls Tryz.prog g #[.agg (cec x).toArray,.agg (cec y).toArray] w (fun e w'=>e = .returned (.int .i64 (cf x y))/\Own w no w' [])) (hR:(row (.slice a N c) (l.map cec) 106 7).holds w S) (hlt:∀ b,S b->b<w.heap.size):Calls Tryz.prog 170 #[.slice a N c,.int .i64 (lo:Int),.int .i64 (mid:Int),.int .i64 (hi:Int),.func (.func g) #[] #[]] w (fun e w'=>∃ x:List Cen,e = .returned (.tuple #[])/\Own w S w' [row (.slice a N c) (x.map cec) 106 7]/\(x.length=N/\Qb2 l x lo mid hi)):=by
 refine Qaj (n:=58) Tryz.func170 rfl Tryz.ntmps170 rfl ?_
 have hs:=Own.lent hR hlt
 obtain ⟨t,hrt,hro0⟩:=Qjt (l:=l) (a:=lo) (m:=mid) (b:=hi) (by omega) (by omega) (by omega)
 refine Qag (Qab (Qaa (Qac (V:=I6 (mid:Int)) rfl (Qaa (Qac (V:=I6 (lo:Int)) rfl (Qaa (Qba (a:=(mid:Int)) (b:=(lo:Int)) (c:=((mid-lo:Nat):Int)) rfl rfl (Qak (by omega) (by omega)) (Qaa (Qad (V:=I6 ((mid-lo:Nat):Int)) rfl (Qaf (Qag (Qab (Qaa (Qac (V:=I6 (hi:Int)) rfl (Qaa (Qac (V:=I6 (mid:Int)) rfl (Qaa (Qba (a:=(hi:Int)) (b:=(mid:Int)) (c:=((hi-mid:Nat):Int)) rfl rfl (Qak (by omega) (by omega)) (Qaa (Qad (V:=I6 ((hi-mid:Nat):Int)) rfl (Qaf (Qag (Qam (QaA (fun J μ J' w'=>∃ (Jo:Env) (i:Nat) (j:Nat) (m:List Cen),J'=upd (upd (mix ([10,11]++sq 18 32) Jo J) 10 (I6 (i:Int))) 11 (I6 (j:Int))/\(0<i)/\(0<j)/\(m.length=N)/\(QiS m t mid i j)/\μ=i+j/\Own w S w' [row (.slice a N c) (m.map cec) 106 7]) ?_ ?_))))))))))))))))))))))))
 ·exact ⟨_,_,mid-lo,hi-mid,l,Qai (Qai (Qao (ds:=([10,11]++sq 18 32)) (Agr.refl _ _)) rfl) rfl,(by omega),(by omega),hz,hro0,rfl,hs⟩
 rintro μ J' w1 ⟨Jo,i,j,m,rfl,hi0,hj0,hz1,hro,rfl,hs⟩
 have hrl:=QiG hro
 refine Qag (Qag (Qab (Qaa (Qac (V:=I6 (i:Int)) rfl (Qaa (Qac (V:=I6 (j:Int)) rfl (Qaa (Qb7 rfl rfl (Qaf (Qan (t:=!decide ((i:Int)=(j:Int))) rfl (fun c2=>?_) (fun c2=>?_)))))))))))
 ·
  replace c2:=Qbs c2
  replace c2:=QQ2 c2
  refine Qap (Qam (Qag (Qab (Qaa (Qac (V:=I6 (i:Int)) rfl (Qaa (Qac (V:=I6 (j:Int)) rfl (Qaa (QbW rfl rfl (Qaf (Qan (t:=decide ((j:Int)<(i:Int))) rfl (fun c3=>?_) (fun c3=>?_))))))))))))
  ·
   replace c3:=QQ1 c3
   refine Qag (Qab (Qaa (Qac (V:=.slice a N c) rfl (Qaa (Qac (V:=I6 (mid:Int)) rfl (Qaa (Qac (V:=I6 (i:Int)) rfl (Qaa (Qba (a:=(mid:Int)) (b:=(i:Int)) (c:=((mid-i:Nat):Int)) rfl rfl (Qak (by omega) (by omega)) (Qaa (Qac (V:=I6 (mid:Int)) rfl (Qaa (Qac (V:=I6 (j:Int)) rfl (Qaa (Qac (V:=.func (.func g) #[] #[]) rfl (Qaa (Qbu (α:=List Cen) (vs:=[.slice a N c,I6 ((mid-i:Nat):Int),I6 (mid:Int),I6 (j:Int),.func (.func g) #[] #[]]) (V:=fun _=>.tuple #[]) (R:=row (.slice a N c) (m.map cec) 106 7) (R':=fun x=>row (.slice a N c) (x.map cec) 106 7) (Lo:=fun _=>[]) (F:=fun x _=>x.length=N/\x=swN m (mid-i) mid j) Ql0 rfl rfl hs 0 rfl (fun S hS hlt=>Qm3 _ S a N c m (by first|assumption|omega) hN (mid-i) mid j (by omega) (by omega) g hg cf hc hcmp hS hlt) fun mz4 w5 hs hF6=>(Qaf (Qab (Qaa (Qac (V:=I6 (i:Int)) rfl (Qaa (Qac (V:=I6 (j:Int)) rfl (Qaa (Qba (a:=(i:Int)) (b:=(j:Int)) (c:=((i-j:Nat):Int)) rfl rfl (Qak (by omega) (by omega)) (Qaa (Qad (V:=I6 ((i-j:Nat):Int)) rfl (Qaf ?_))))))))))))))))))))))))))))
   refine ⟨_,?_,_,i-j,j,mz4,Qai (Qai (Qao (ds:=([10,11]++sq 18 32)) (by repeat (first|exact Agr.refl _ _|refine Agr.upd ?_ rfl|refine Agr.mix ?_ rfl))) rfl) rfl,(by omega),(by omega),hF6.1,(by rw [hF6.2];exact Qpg hro (by omega)),rfl,hs.take 1⟩
   omega
  replace c3:=QQ2 c3
  refine Qag (Qab (Qaa (Qac (V:=.slice a N c) rfl (Qaa (Qac (V:=I6 (mid:Int)) rfl (Qaa (Qac (V:=I6 (i:Int)) rfl (Qaa (Qba (a:=(mid:Int)) (b:=(i:Int)) (c:=((mid-i:Nat):Int)) rfl rfl (Qak (by omega) (by omega)) (Qaa (Qac (V:=I6 (mid:Int)) rfl (Qaa (Qac (V:=I6 (j:Int)) rfl (Qaa (QaD (a:=(mid:Int)) (b:=(j:Int)) (c:=((mid+j:Nat):Int)) rfl rfl (Qak (by omega) (by omega)) (Qaa (Qac (V:=I6 (i:Int)) rfl (Qaa (Qba (a:=((mid+j:Nat):Int)) (b:=(i:Int)) (c:=(((mid+j)-i:Nat):Int)) rfl rfl (Qak (by omega) (by omega)) (Qaa (Qac (V:=I6 (i:Int)) rfl (Qaa (Qac (V:=.func (.func g) #[] #[]) rfl (Qaa (Qbu (α:=List Cen) (vs:=[.slice a N c,I6 ((mid-i:Nat):Int),I6 (((mid+j)-i:Nat):Int),I6 (i:Int),.func (.func g) #[] #[]]) (V:=fun _=>.tuple #[]) (R:=row (.slice a N c) (m.map cec) 106 7) (R':=fun x=>row (.slice a N c) (x.map cec) 106 7) (Lo:=fun _=>[]) (F:=fun x _=>x.length=N/\x=swN m (mid-i) ((mid+j)-i) i) Ql0 rfl rfl hs 0 rfl (fun S hS hlt=>Qm3 _ S a N c m (by first|assumption|omega) hN (mid-i) ((mid+j)-i) i (by omega) (by omega) g hg cf hc hcmp hS hlt) fun mz7 w8 hs hF9=>(Qaf (Qab (Qaa (Qac (V:=I6 (j:Int)) rfl (Qaa (Qac (V:=I6 (i:Int)) rfl (Qaa (Qba (a:=(j:Int)) (b:=(i:Int)) (c:=((j-i:Nat):Int)) rfl rfl (Qak (by omega) (by omega)) (Qaa (Qad (V:=I6 ((j-i:Nat):Int)) rfl (Qaf ?_))))))))))))))))))))))))))))))))))))
  refine ⟨_,?_,_,i,j-i,mz7,Qai (Qai (Qao (ds:=([10,11]++sq 18 32)) (by repeat (first|exact Agr.refl _ _|refine Agr.upd ?_ rfl|refine Agr.mix ?_ rfl))) rfl) rfl,(by omega),(by omega),hF9.1,(by rw [hF9.2];exact Qnx hro (by omega)),rfl,hs.take 1⟩
  omega
 replace c2:=Qbd c2
 replace c2:=QQ1 c2
 refine QaH ?_
 have hrl:=QiG hro
 have hij:i=j:=by omega
 refine Qab (Qaa (Qac (V:=.slice a N c) rfl (Qaa (Qac (V:=I6 (mid:Int)) rfl (Qaa (Qac (V:=I6 (i:Int)) rfl (Qaa (Qba (a:=(mid:Int)) (b:=(i:Int)) (c:=((mid-i:Nat):Int)) rfl rfl (Qak (by omega) (by omega)) (Qaa (Qac (V:=I6 (mid:Int)) rfl (Qaa (Qac (V:=I6 (i:Int)) rfl (Qaa (Qac (V:=.func (.func g) #[] #[]) rfl (Qaa (Qbu (α:=List Cen) (vs:=[.slice a N c,I6 ((mid-i:Nat):Int),I6 (mid:Int),I6 (i:Int),.func (.func g) #[] #[]]) (V:=fun _=>.tuple #[]) (R:=row (.slice a N c) (m.map cec) 106 7) (R':=fun x=>row (.slice a N c) (x.map cec) 106 7) (Lo:=fun _=>[]) (F:=fun x _=>x.length=N/\x=swN m (mid-i) mid i) Ql0 rfl rfl hs 0 rfl (fun S hS hlt=>Qm3 _ S a N c m (by first|assumption|omega) hN (mid-i) mid i (by omega) (by omega) g hg cf hc hcmp hS hlt) fun mz10 w11 hs hF12=>(Qaf ?_)))))))))))))))))
 refine ⟨_,Qbr Tryz.results170,?_⟩
 have hxt:mz10=t:=by rw [hF12.2];exact QnF hro (by omega)
 rw [hxt] at hs
 exact ⟨t,rfl,hs.take 1,by rw [← hxt];exact hF12.1,hrt⟩
end Tt
end Go.Proofs
namespace Go.Proofs
open Go Go.Vx Go.RowKit
namespace Tt
theorem QlL (d:Nat) (g:Nat) (hg:En Tryz.prog g) (cf:Cen->Cen->Int) (hc:CmpO cf) (hcmp:∀ (w:World) (x y:Cen),Calls Tryz.prog g #[.agg (cec x).toArray,.agg (cec y).toArray] w (fun e w'=>e = .returned (.int .i64 (cf x y))/\Own w no w' [])) (ih:Qtw Tryz.prog 157 g 106 7 cec cf d) (w:World) (S:Nat->Prop) (a:Option Addr) (N c:Nat) (l:List Cen) (lo mid hi:Nat) (hz:l.length=N) (hN:N<=2305843009213693951) (hd:hi-lo<=d+1) (h1:lo<mid) (h2:mid<hi) (h3:hi<=N) (ho1:Qbj cf l lo mid) (ho2:Qbj cf l mid hi) (hR:(row (.slice a N c) (l.map cec) 106 7).holds w S) (hlt:∀ b,S b->b<w.heap.size):Calls Tryz.prog 157 #[.slice a N c,.int .i64 (lo:Int),.int .i64 (mid:Int),.int .i64 (hi:Int),.func (.func g) #[] #[]] w (fun e w'=>∃ x:List Cen,e = .returned (.tuple #[])/\Own w S w' [row (.slice a N c) (x.map cec) 106 7]/\(x.length=N/\Merged cf l x lo hi)):=by
 refine Qaj (n:=220) Tryz.func157 rfl Tryz.ntmps157 rfl ?_
 have hs:=Own.lent hR hlt
 refine Qag (Qag (Qab (Qaa (Qac (V:=I6 (mid:Int)) rfl (Qaa (Qac (V:=I6 (lo:Int)) rfl (Qaa (Qba (a:=(mid:Int)) (b:=(lo:Int)) (c:=((mid-lo:Nat):Int)) rfl rfl (Qak (by omega) (by omega)) (Qaa (QaT rfl rfl (Qaf (Qan (t:=decide (((mid-lo:Nat):Int)=1)) rfl (fun c1=>?_) (fun c1=>?_)))))))))))))
 ·
  replace c1:=QQ1 c1
  refine Qag (Qab (Qaa (Qac (V:=I6 (mid:Int)) rfl (Qaa (Qad (V:=I6 (mid:Int)) rfl (Qaf (Qag (Qab (Qaa (Qac (V:=I6 (hi:Int)) rfl (Qaa (Qad (V:=I6 (hi:Int)) rfl (Qaf (Qag (Qam (QaA (fun J μ J' w'=>∃ (Jo:Env) (i:Nat) (j:Nat),J'=upd (upd (mix ([10,11,12]++sq 31 23) Jo J) 10 (I6 (i:Int))) 11 (I6 (j:Int))/\(mid<=i)/\(i<=j)/\(j<=hi)/\(i=mid∨cf (gd l (i-1)) (gd l lo)<0)/\(j=hi∨¬cf (gd l j) (gd l lo)<0)/\μ=j-i/\Own w S w' [row (.slice a N c) (l.map cec) 106 7]) ?_ ?_))))))))))))))))
  ·exact ⟨_,_,mid,hi,Qai (Qai (Qao (ds:=([10,11,12]++sq 31 23)) (Agr.refl _ _)) rfl) rfl,(Nat.le_refl _),(by omega),(Nat.le_refl _),(Or.inl rfl),(Or.inl rfl),rfl,hs⟩
  rintro μ J' w2 ⟨Jo,i,j,rfl,hi1,hij,hj1,hi2,hj2,rfl,hs⟩
  refine Qag (Qag (Qab (Qaa (Qac (V:=I6 (i:Int)) rfl (Qaa (Qac (V:=I6 (j:Int)) rfl (Qaa (QaS rfl rfl (Qaf (Qan (t:=decide ((i:Int)<(j:Int))) rfl (fun c3=>?_) (fun c3=>?_)))))))))))
  ·
   replace c3:=QQ1 c3
   refine Qap (Qam (Qag (Qab (Qaa (Qac (V:=I6 (i:Int)) rfl (Qaa (Qac (V:=I6 (j:Int)) rfl (Qaa (QaD (a:=(i:Int)) (b:=(j:Int)) (c:=((i+j:Nat):Int)) rfl rfl (Qak (by omega) (by omega)) (Qaa (Qb4 Qh1 QdN rfl (Qdg (by omega) (by omega)) (Qaa (QiH rfl rfl (Qaa (Qb4 QdN Qh1 rfl (QbK (by omega) (by omega)) (Qaa (Qad (V:=I6 (((i+j)/2:Nat):Int)) rfl (Qaf (Qag (QaJ HM [some 40,some 41,some 42,some 43,some 44,some 45,some 46,some 47,some 48,some 49,some 50] [] [0,0,0,6,14,0,0,96,224,511,1023] [pv (.func (.func g) #[] #[]),pv (.slice a N c),pv (I6 (((i+j)/2:Nat):Int)),pv (.pointer (some ⟨bkS (.slice a N c),ofS (.slice a N c)+(((i+j)/2:Nat):Int).toNat*7,none⟩)),pv (.agg (cec (gd l ((i+j)/2))).toArray),pv (.slice a N c),pv (I6 (lo:Int)),pv (.pointer (some ⟨bkS (.slice a N c),ofS (.slice a N c)+(lo:Int).toNat*7,none⟩)),pv (.agg (cec (gd l lo)).toArray),pv (I6 (cf (gd l ((i+j)/2)) (gd l lo))),pv (.bool (decide (cf (gd l ((i+j)/2)) (gd l lo)<0)))] (fun _ _=>_) [10] (by kernel_rfl) hs ⟨?_,?_,?_,?_,?_,?_,?_,?_,?_,?_,?_,trivial⟩ ?_))))))))))))))))))))
   ·exact oa [] fun D J w hs=>Qac (V:=.func (.func g) #[] #[]) rfl (Zz hs)
   ·exact oa [] fun D J w hs=>Qac (V:=.slice a N c) rfl (Zz hs)
   ·exact oa [] fun D J w hs=>Qac (V:=.int .i64 (((i+j)/2:Nat):Int)) rfl (Zz hs)
   ·exact oa [1,2] fun D J w hs=>Qax QbI QaG.1 (hs.rd 0 rfl) rfl rfl (by omega) (by rw [QQ6];omega) (Zz hs)
   ·exact oa [3] fun D J w hs=>QaV (j:=0) (vs:=cec (gd l ((i+j)/2))) ((i+j)/2) QaG (hs.rd 0 rfl) (QaW (by omega)) rfl rfl rfl (by omega) (Zz hs)
   ·exact oa [] fun D J w hs=>Qac (V:=.slice a N c) rfl (Zz hs)
   ·exact oa [] fun D J w hs=>Qac (V:=.int .i64 (lo:Int)) rfl (Zz hs)
   ·exact oa [5,6] fun D J w hs=>Qax QbI QaG.1 (hs.rd 0 rfl) rfl rfl (by omega) (by rw [QQ6];omega) (Zz hs)
   ·exact oa [7] fun D J w hs=>QaV (j:=0) (vs:=cec (gd l lo)) lo QaG (hs.rd 0 rfl) (QaW (by omega)) rfl rfl rfl (by omega) (Zz hs)
   ·exact oa [0,4,8] fun D J w hs=>Qf1 (vs:=[.agg (cec (gd l ((i+j)/2))).toArray,.agg (cec (gd l lo)).toArray]) (cs:=[]) (V:=.int .i64 (cf (gd l ((i+j)/2)) (gd l lo))) hg rfl rfl (hcmp _ (gd l ((i+j)/2)) (gd l lo)) hs fun _ hs=>Zz hs
   ·exact oa [9] fun D J w hs=>QaS rfl rfl (Zz hs)
   rintro J1 w5 J2 hJ hs
   replace hJ:J2=upd (mix (sq 40 11) J1 _) 50 (.bool (decide (cf (gd l ((i+j)/2)) (gd l lo)<0))):=hJ
   subst hJ
   refine Qan (t:=decide (cf (gd l ((i+j)/2)) (gd l lo)<0)) rfl (fun c6=>?_) (fun c6=>?_)
   ·
    replace c6:=QQ1 c6
    refine Qab (Qaa (Qac (V:=I6 (((i+j)/2:Nat):Int)) rfl (Qaa (QaD (a:=(((i+j)/2:Nat):Int)) (b:=1) (c:=((((i+j)/2)+1:Nat):Int)) rfl rfl (Qak (by omega) (by omega)) (Qaa (Qad (V:=I6 ((((i+j)/2)+1:Nat):Int)) rfl (Qaf ?_)))))))
    refine ⟨_,?_,_,((i+j)/2)+1,j,Qai (Qai (Qao (ds:=([10,11,12]++sq 31 23)) (by repeat (first|exact Agr.refl _ _|refine Agr.upd ?_ rfl|refine Agr.mix ?_ rfl))) rfl) rfl,(by omega),(by omega),(by omega),(Or.inr (by rw [Nat.add_sub_cancel];exact c6)),hj2,rfl,hs.take 1⟩
    omega
   replace c6:=QQ2 c6
   refine Qab (Qaa (Qac (V:=I6 (((i+j)/2:Nat):Int)) rfl (Qaa (Qad (V:=I6 (((i+j)/2:Nat):Int)) rfl (Qaf ?_)))))
   refine ⟨_,?_,_,i,(i+j)/2,Qai (Qai (Qao (ds:=([10,11,12]++sq 31 23)) (by repeat (first|exact Agr.refl _ _|refine Agr.upd ?_ rfl|refine Agr.mix ?_ rfl))) rfl) rfl,(by omega),(by omega),(by omega),hi2,(Or.inr c6),rfl,hs.take 1⟩
   omega
  replace c3:=QQ2 c3
  refine QaH (Qag (Qag (Qab (Qaa (Qac (V:=I6 (lo:Int)) rfl (Qaa (Qad (V:=I6 (lo:Int)) rfl (Qaf (Qam ?_)))))))))
  have hie:i=j:=by omega
  refine QaA (fun J μ J' w'=>∃ (Jo:Env) (k:Nat) (m:List Cen),J'=upd (mix ([13]++sq 55 22) Jo J) 13 (I6 (k:Int))/\(lo<=k)/\(k+1<=i)/\(m.length=N)/\(Qb2 l m lo (lo+1) (k+1))/\μ=i-k/\Own w S w' [row (.slice a N c) (m.map cec) 106 7]) ?_ ?_
  ·exact ⟨_,_,lo,l,Qai (Qao (ds:=([13]++sq 55 22)) (Agr.refl _ _)) rfl,(Nat.le_refl _),(by omega),hz,(Qb2.refl (by omega) (by omega) (by omega) (Or.inr rfl)),rfl,hs⟩
  rintro μ J' w7 ⟨Jo,k,m,rfl,hk1,hk2,hz1,hro,rfl,hs⟩
  refine Qag (Qag (Qab (Qaa (Qac (V:=I6 (k:Int)) rfl (Qaa (Qac (V:=I6 (i:Int)) rfl (Qaa (Qba (a:=(i:Int)) (b:=1) (c:=((i-1:Nat):Int)) rfl rfl (Qak (by omega) (by omega)) (Qaa (QaS rfl rfl (Qaf (Qan (t:=decide ((k:Int)<((i-1:Nat):Int))) rfl (fun c8=>?_) (fun c8=>?_)))))))))))))
  ·
   replace c8:=QQ1 c8
   refine Qap (Qag (Qam (QaJ HM [some 61,some 62,some 63,some 64,some 65,some 66,some 67,some 68,some 69,some 70,some 71,some 72,some 73,some 74,some 75,none,some 76,none] [] [0,0,0,0,8,0,0,64,224,480,0,0,3072,7168,16355,32739,65535,131071] [pv (.slice a N c),pv (I6 (k:Int)),pv (.slice a N c),pv (I6 (k:Int)),pv (I6 ((k+1:Nat):Int)),pv (.slice a N c),pv (I6 (k:Int)),pv (I6 ((k+1:Nat):Int)),pv (.pointer (some ⟨bkS (.slice a N c),ofS (.slice a N c)+((k+1:Nat):Int).toNat*7,none⟩)),pv (.agg (cec (gd m (k+1))).toArray),pv (.slice a N c),pv (I6 (k:Int)),pv (.pointer (some ⟨bkS (.slice a N c),ofS (.slice a N c)+(k:Int).toNat*7,none⟩)),pv (.agg (cec (gd m k)).toArray),pv (.pointer (some ⟨bkS (.slice a N c),ofS (.slice a N c)+(k:Int).toNat*7,none⟩)),pn,pv (.pointer (some ⟨bkS (.slice a N c),ofS (.slice a N c)+((k+1:Nat):Int).toNat*7,none⟩)),pn] (fun D J=>[cond (D 17) (row (.slice a N c) (((m.set k (gd m (k+1))).set (k+1) (gd m k)).map cec) 106 7) (cond (D 15) (row (.slice a N c) ((m.set k (gd m (k+1))).map cec) 106 7) (row (.slice a N c) (m.map cec) 106 7))]) [] (by kernel_rfl) hs ⟨?_,?_,?_,?_,?_,?_,?_,?_,?_,?_,?_,?_,?_,?_,?_,?_,?_,?_,trivial⟩ ?_)))
   ·exact oa [] fun D J w hs=>Qac (V:=.slice a N c) rfl (Zz hs)
   ·exact oa [] fun D J w hs=>Qac (V:=.int .i64 (k:Int)) rfl (Zz hs)
   ·exact oa [] fun D J w hs=>Qac (V:=.slice a N c) rfl (Zz hs)
   ·exact oa [] fun D J w hs=>Qac (V:=.int .i64 (k:Int)) rfl (Zz hs)
   ·exact oa [3] fun D J w hs=>QaD (a:=(k:Int)) (b:=1) (c:=((k+1:Nat):Int)) rfl rfl (Qak (by omega) (by omega)) (Zz hs)
   ·exact oa [] fun D J w hs=>Qac (V:=.slice a N c) rfl (Zz hs)
   ·exact oa [] fun D J w hs=>Qac (V:=.int .i64 (k:Int)) rfl (Zz hs)
   ·exact oa [6] fun D J w hs=>QaD (a:=(k:Int)) (b:=1) (c:=((k+1:Nat):Int)) rfl rfl (Qak (by omega) (by omega)) (Zz hs)
   ·exact ob [5,7] [15,17] rfl rfl fun D J w hs=>Qax QbI QaG.1 (hs.rd 0 rfl) rfl rfl (by omega) (by rw [QQ6];omega) (Zz hs)
   ·exact ob [8] [15,17] rfl rfl fun D J w hs=>QaV (j:=0) (vs:=cec (gd m (k+1))) (k+1) QaG (hs.rd 0 rfl) (QaW (by omega)) rfl rfl rfl (by omega) (Zz hs)
   ·exact oa [] fun D J w hs=>Qac (V:=.slice a N c) rfl (Zz hs)
   ·exact oa [] fun D J w hs=>Qac (V:=.int .i64 (k:Int)) rfl (Zz hs)
   ·exact ob [10,11] [15,17] rfl rfl fun D J w hs=>Qax QbI QaG.1 (hs.rd 0 rfl) rfl rfl (by omega) (by rw [QQ6];omega) (Zz hs)
   ·exact ob [12] [15,17] rfl rfl fun D J w hs=>QaV (j:=0) (vs:=cec (gd m k)) k QaG (hs.rd 0 rfl) (QaW (by omega)) rfl rfl rfl (by omega) (Zz hs)
   ·exact ob [0,1] [15,17] rfl rfl fun D J w hs=>Qax QbI QaG.1 (hs.rd 0 rfl) rfl rfl (by omega) (by rw [QQ6];omega) (Zz hs)
   ·exact ob [9,14] [17] rfl rfl fun D J w hs=>QhP (z:=gd m (k+1)) k QaG.1 hs 0 rfl rfl rfl (by first|omega|(simp only [List.length_set];omega)) rfl rfl rfl (Qa6 _) fun _ hs=>⟨trivial,hs⟩
   ·exact ob [2,4,15] [17] rfl rfl fun D J w hs=>Qax QbI QaG.1 (hs.rd 0 rfl) rfl rfl (by omega) (by simp only [QQ6,List.length_set];omega) (Zz hs)
   ·exact oa [13,15,16] fun D J w hs=>QhP (z:=gd m k) (k+1) QaG.1 hs 0 rfl rfl rfl (by first|omega|(simp only [List.length_set];omega)) rfl rfl rfl (Qa6 _) fun _ hs=>⟨trivial,hs⟩
   rintro J1 w11 J2 hJ hs
   replace hJ:J2=mix (sq 61 16) J1 _:=hJ
   replace hs:Own w S w11 [row (.slice a N c) (((m.set k (gd m (k+1))).set (k+1) (gd m k)).map cec) 106 7]:=hs
   subst hJ
   replace hs:Own w S _ [row (.slice a N c) ((swL m k (k+1)).map cec) 106 7]:=hs.take 1
   refine Qab (Qaa (Qac (V:=I6 (k:Int)) rfl (Qaa (QaD (a:=(k:Int)) (b:=1) (c:=((k+1:Nat):Int)) rfl rfl (Qak (by omega) (by omega)) (Qaa (Qad (V:=I6 ((k+1:Nat):Int)) rfl (Qaf ?_)))))))
   refine ⟨_,?_,_,k+1,swL m k (k+1),Qai (Qao (ds:=([13]++sq 55 22)) (by repeat (first|exact Agr.refl _ _|refine Agr.upd ?_ rfl|refine Agr.mix ?_ rfl))) rfl,(by omega),(by omega),(by rw [QhT];exact hz1),(Qtj hro (by omega)),rfl,hs.take 1⟩
   omega
  replace c8:=QQ2 c8
  refine QaH (Qaw ?_)
  refine ⟨_,Qbr Tryz.results157,?_⟩
  have hke:k+1=i:=by omega
  rw [hke] at hro
  exact ⟨m,rfl,hs.take 1,hz1,QsR hc (by rw [show lo+1=mid by omega];exact ho2) (by omega) (by omega) (by omega) hro (by rw [hie];exact hj2) (by rw [show lo+1=mid by omega];exact hi2)⟩
 replace c1:=QQ2 c1
 refine Qap (Qag (Qag (Qab (Qaa (Qac (V:=I6 (hi:Int)) rfl (Qaa (Qac (V:=I6 (mid:Int)) rfl (Qaa (Qba (a:=(hi:Int)) (b:=(mid:Int)) (c:=((hi-mid:Nat):Int)) rfl rfl (Qak (by omega) (by omega)) (Qaa (QaT rfl rfl (Qaf (Qan (t:=decide (((hi-mid:Nat):Int)=1)) rfl (fun c12=>?_) (fun c12=>?_))))))))))))))
 ·
  replace c12:=QQ1 c12
  refine Qag (Qab (Qaa (Qac (V:=I6 (lo:Int)) rfl (Qaa (Qad (V:=I6 (lo:Int)) rfl (Qaf (Qag (Qab (Qaa (Qac (V:=I6 (mid:Int)) rfl (Qaa (Qad (V:=I6 (mid:Int)) rfl (Qaf (Qag (Qam (QaA (fun J μ J' w'=>∃ (Jo:Env) (i:Nat) (j:Nat),J'=upd (upd (mix ([14,15,16]++sq 83 24) Jo J) 14 (I6 (i:Int))) 15 (I6 (j:Int))/\(lo<=i)/\(i<=j)/\(j<=mid)/\(i=lo∨¬cf (gd l mid) (gd l (i-1))<0)/\(j=mid∨cf (gd l mid) (gd l j)<0)/\μ=j-i/\Own w S w' [row (.slice a N c) (l.map cec) 106 7]) ?_ ?_))))))))))))))))
  ·exact ⟨_,_,lo,mid,Qai (Qai (Qao (ds:=([14,15,16]++sq 83 24)) (Agr.refl _ _)) rfl) rfl,(Nat.le_refl _),(by omega),(Nat.le_refl _),(Or.inl rfl),(Or.inl rfl),rfl,hs⟩
  rintro μ J' w13 ⟨Jo,i,j,rfl,hi1,hij,hj1,hi2,hj2,rfl,hs⟩
  refine Qag (Qag (Qab (Qaa (Qac (V:=I6 (i:Int)) rfl (Qaa (Qac (V:=I6 (j:Int)) rfl (Qaa (QaS rfl rfl (Qaf (Qan (t:=decide ((i:Int)<(j:Int))) rfl (fun c14=>?_) (fun c14=>?_)))))))))))
  ·
   replace c14:=QQ1 c14
   refine Qap (Qam (Qag (Qab (Qaa (Qac (V:=I6 (i:Int)) rfl (Qaa (Qac (V:=I6 (j:Int)) rfl (Qaa (QaD (a:=(i:Int)) (b:=(j:Int)) (c:=((i+j:Nat):Int)) rfl rfl (Qak (by omega) (by omega)) (Qaa (Qb4 Qh1 QdN rfl (Qdg (by omega) (by omega)) (Qaa (QiH rfl rfl (Qaa (Qb4 QdN Qh1 rfl (QbK (by omega) (by omega)) (Qaa (Qad (V:=I6 (((i+j)/2:Nat):Int)) rfl (Qaf (Qag (QaJ HM [some 92,some 93,some 94,some 95,some 96,some 97,some 98,some 99,some 100,some 101,some 102,some 103] [] [0,0,0,6,14,0,0,96,224,511,1023,2047] [pv (.func (.func g) #[] #[]),pv (.slice a N c),pv (I6 (mid:Int)),pv (.pointer (some ⟨bkS (.slice a N c),ofS (.slice a N c)+(mid:Int).toNat*7,none⟩)),pv (.agg (cec (gd l mid)).toArray),pv (.slice a N c),pv (I6 (((i+j)/2:Nat):Int)),pv (.pointer (some ⟨bkS (.slice a N c),ofS (.slice a N c)+(((i+j)/2:Nat):Int).toNat*7,none⟩)),pv (.agg (cec (gd l ((i+j)/2))).toArray),pv (I6 (cf (gd l mid) (gd l ((i+j)/2)))),pv (.bool (decide (cf (gd l mid) (gd l ((i+j)/2))<0))),pv (.bool (!decide (cf (gd l mid) (gd l ((i+j)/2))<0)))] (fun _ _=>_) [11] (by kernel_rfl) hs ⟨?_,?_,?_,?_,?_,?_,?_,?_,?_,?_,?_,?_,trivial⟩ ?_))))))))))))))))))))
   ·exact oa [] fun D J w hs=>Qac (V:=.func (.func g) #[] #[]) rfl (Zz hs)
   ·exact oa [] fun D J w hs=>Qac (V:=.slice a N c) rfl (Zz hs)
   ·exact oa [] fun D J w hs=>Qac (V:=.int .i64 (mid:Int)) rfl (Zz hs)
   ·exact oa [1,2] fun D J w hs=>Qax QbI QaG.1 (hs.rd 0 rfl) rfl rfl (by omega) (by rw [QQ6];omega) (Zz hs)
   ·exact oa [3] fun D J w hs=>QaV (j:=0) (vs:=cec (gd l mid)) mid QaG (hs.rd 0 rfl) (QaW (by omega)) rfl rfl rfl (by omega) (Zz hs)
   ·exact oa [] fun D J w hs=>Qac (V:=.slice a N c) rfl (Zz hs)
   ·exact oa [] fun D J w hs=>Qac (V:=.int .i64 (((i+j)/2:Nat):Int)) rfl (Zz hs)
   ·exact oa [5,6] fun D J w hs=>Qax QbI QaG.1 (hs.rd 0 rfl) rfl rfl (by omega) (by rw [QQ6];omega) (Zz hs)
   ·exact oa [7] fun D J w hs=>QaV (j:=0) (vs:=cec (gd l ((i+j)/2))) ((i+j)/2) QaG (hs.rd 0 rfl) (QaW (by omega)) rfl rfl rfl (by omega) (Zz hs)
   ·exact oa [0,4,8] fun D J w hs=>Qf1 (vs:=[.agg (cec (gd l mid)).toArray,.agg (cec (gd l ((i+j)/2))).toArray]) (cs:=[]) (V:=.int .i64 (cf (gd l mid) (gd l ((i+j)/2)))) hg rfl rfl (hcmp _ (gd l mid) (gd l ((i+j)/2))) hs fun _ hs=>Zz hs
   ·exact oa [9] fun D J w hs=>QaS rfl rfl (Zz hs)
   ·exact oa [10] fun D J w hs=>Qbx rfl (Zz hs)
   rintro J1 w16 J2 hJ hs
   replace hJ:J2=upd (mix (sq 92 12) J1 _) 103 (.bool (!decide (cf (gd l mid) (gd l ((i+j)/2))<0))):=hJ
   subst hJ
   refine Qan (t:=!decide (cf (gd l mid) (gd l ((i+j)/2))<0)) rfl (fun c17=>?_) (fun c17=>?_)
   ·
    replace c17:=Qbs c17
    replace c17:=QQ2 c17
    refine Qab (Qaa (Qac (V:=I6 (((i+j)/2:Nat):Int)) rfl (Qaa (QaD (a:=(((i+j)/2:Nat):Int)) (b:=1) (c:=((((i+j)/2)+1:Nat):Int)) rfl rfl (Qak (by omega) (by omega)) (Qaa (Qad (V:=I6 ((((i+j)/2)+1:Nat):Int)) rfl (Qaf ?_)))))))
    refine ⟨_,?_,_,((i+j)/2)+1,j,Qai (Qai (Qao (ds:=([14,15,16]++sq 83 24)) (by repeat (first|exact Agr.refl _ _|refine Agr.upd ?_ rfl|refine Agr.mix ?_ rfl))) rfl) rfl,(by omega),(by omega),(by omega),(Or.inr (by rw [Nat.add_sub_cancel];exact c17)),hj2,rfl,hs.take 1⟩
    omega
   replace c17:=Qbd c17
   replace c17:=QQ1 c17
   refine Qab (Qaa (Qac (V:=I6 (((i+j)/2:Nat):Int)) rfl (Qaa (Qad (V:=I6 (((i+j)/2:Nat):Int)) rfl (Qaf ?_)))))
   refine ⟨_,?_,_,i,(i+j)/2,Qai (Qai (Qao (ds:=([14,15,16]++sq 83 24)) (by repeat (first|exact Agr.refl _ _|refine Agr.upd ?_ rfl|refine Agr.mix ?_ rfl))) rfl) rfl,(by omega),(by omega),(by omega),hi2,(Or.inr c17),rfl,hs.take 1⟩
   omega
  replace c14:=QQ2 c14
  refine QaH (Qag (Qag (Qab (Qaa (Qac (V:=I6 (mid:Int)) rfl (Qaa (Qad (V:=I6 (mid:Int)) rfl (Qaf (Qam ?_)))))))))
  have hie:i=j:=by omega
  refine QaA (fun J μ J' w'=>∃ (Jo:Env) (k:Nat) (m:List Cen),J'=upd (mix ([17]++sq 108 21) Jo J) 17 (I6 (k:Int))/\(i<=k)/\(k<=mid)/\(m.length=N)/\(Qb2 l m k mid (mid+1))/\μ=k+1/\Own w S w' [row (.slice a N c) (m.map cec) 106 7]) ?_ ?_
  ·exact ⟨_,_,mid,l,Qai (Qao (ds:=([17]++sq 108 21)) (Agr.refl _ _)) rfl,(by omega),(Nat.le_refl _),hz,(Qb2.refl (by omega) (by omega) (by omega) (Or.inl rfl)),rfl,hs⟩
  rintro μ J' w18 ⟨Jo,k,m,rfl,hk1,hk2,hz1,hro,rfl,hs⟩
  refine Qag (Qag (Qab (Qaa (Qac (V:=I6 (k:Int)) rfl (Qaa (Qac (V:=I6 (i:Int)) rfl (Qaa (QbW rfl rfl (Qaf (Qan (t:=decide ((i:Int)<(k:Int))) rfl (fun c19=>?_) (fun c19=>?_)))))))))))
  ·
   replace c19:=QQ1 c19
   refine Qap (Qag (Qam (QaJ HM [some 113,some 114,some 115,some 116,some 117,some 118,some 119,some 120,some 121,some 122,some 123,some 124,some 125,some 126,some 127,none,some 128,none] [] [0,0,0,0,8,0,0,64,224,480,0,0,3072,7168,16355,32739,65535,131071] [pv (.slice a N c),pv (I6 (k:Int)),pv (.slice a N c),pv (I6 (k:Int)),pv (I6 ((k-1:Nat):Int)),pv (.slice a N c),pv (I6 (k:Int)),pv (I6 ((k-1:Nat):Int)),pv (.pointer (some ⟨bkS (.slice a N c),ofS (.slice a N c)+((k-1:Nat):Int).toNat*7,none⟩)),pv (.agg (cec (gd m (k-1))).toArray),pv (.slice a N c),pv (I6 (k:Int)),pv (.pointer (some ⟨bkS (.slice a N c),ofS (.slice a N c)+(k:Int).toNat*7,none⟩)),pv (.agg (cec (gd m k)).toArray),pv (.pointer (some ⟨bkS (.slice a N c),ofS (.slice a N c)+(k:Int).toNat*7,none⟩)),pn,pv (.pointer (some ⟨bkS (.slice a N c),ofS (.slice a N c)+((k-1:Nat):Int).toNat*7,none⟩)),pn] (fun D J=>[cond (D 17) (row (.slice a N c) (((m.set k (gd m (k-1))).set (k-1) (gd m k)).map cec) 106 7) (cond (D 15) (row (.slice a N c) ((m.set k (gd m (k-1))).map cec) 106 7) (row (.slice a N c) (m.map cec) 106 7))]) [] (by kernel_rfl) hs ⟨?_,?_,?_,?_,?_,?_,?_,?_,?_,?_,?_,?_,?_,?_,?_,?_,?_,?_,trivial⟩ ?_)))
   ·exact oa [] fun D J w hs=>Qac (V:=.slice a N c) rfl (Zz hs)
   ·exact oa [] fun D J w hs=>Qac (V:=.int .i64 (k:Int)) rfl (Zz hs)
   ·exact oa [] fun D J w hs=>Qac (V:=.slice a N c) rfl (Zz hs)
   ·exact oa [] fun D J w hs=>Qac (V:=.int .i64 (k:Int)) rfl (Zz hs)
   ·exact oa [3] fun D J w hs=>Qba (a:=(k:Int)) (b:=1) (c:=((k-1:Nat):Int)) rfl rfl (Qak (by omega) (by omega)) (Zz hs)
   ·exact oa [] fun D J w hs=>Qac (V:=.slice a N c) rfl (Zz hs)
   ·exact oa [] fun D J w hs=>Qac (V:=.int .i64 (k:Int)) rfl (Zz hs)
   ·exact oa [6] fun D J w hs=>Qba (a:=(k:Int)) (b:=1) (c:=((k-1:Nat):Int)) rfl rfl (Qak (by omega) (by omega)) (Zz hs)
   ·exact ob [5,7] [15,17] rfl rfl fun D J w hs=>Qax QbI QaG.1 (hs.rd 0 rfl) rfl rfl (by omega) (by rw [QQ6];omega) (Zz hs)
   ·exact ob [8] [15,17] rfl rfl fun D J w hs=>QaV (j:=0) (vs:=cec (gd m (k-1))) (k-1) QaG (hs.rd 0 rfl) (QaW (by omega)) rfl rfl rfl (by omega) (Zz hs)
   ·exact oa [] fun D J w hs=>Qac (V:=.slice a N c) rfl (Zz hs)
   ·exact oa [] fun D J w hs=>Qac (V:=.int .i64 (k:Int)) rfl (Zz hs)
   ·exact ob [10,11] [15,17] rfl rfl fun D J w hs=>Qax QbI QaG.1 (hs.rd 0 rfl) rfl rfl (by omega) (by rw [QQ6];omega) (Zz hs)
   ·exact ob [12] [15,17] rfl rfl fun D J w hs=>QaV (j:=0) (vs:=cec (gd m k)) k QaG (hs.rd 0 rfl) (QaW (by omega)) rfl rfl rfl (by omega) (Zz hs)
   ·exact ob [0,1] [15,17] rfl rfl fun D J w hs=>Qax QbI QaG.1 (hs.rd 0 rfl) rfl rfl (by omega) (by rw [QQ6];omega) (Zz hs)
   ·exact ob [9,14] [17] rfl rfl fun D J w hs=>QhP (z:=gd m (k-1)) k QaG.1 hs 0 rfl rfl rfl (by first|omega|(simp only [List.length_set];omega)) rfl rfl rfl (Qa6 _) fun _ hs=>⟨trivial,hs⟩
   ·exact ob [2,4,15] [17] rfl rfl fun D J w hs=>Qax QbI QaG.1 (hs.rd 0 rfl) rfl rfl (by omega) (by simp only [QQ6,List.length_set];omega) (Zz hs)
   ·exact oa [13,15,16] fun D J w hs=>QhP (z:=gd m k) (k-1) QaG.1 hs 0 rfl rfl rfl (by first|omega|(simp only [List.length_set];omega)) rfl rfl rfl (Qa6 _) fun _ hs=>⟨trivial,hs⟩
   rintro J1 w22 J2 hJ hs
   replace hJ:J2=mix (sq 113 16) J1 _:=hJ
   replace hs:Own w S w22 [row (.slice a N c) (((m.set k (gd m (k-1))).set (k-1) (gd m k)).map cec) 106 7]:=hs
   subst hJ
   replace hs:Own w S _ [row (.slice a N c) ((swL m k (k-1)).map cec) 106 7]:=hs.take 1
   refine Qab (Qaa (Qac (V:=I6 (k:Int)) rfl (Qaa (Qba (a:=(k:Int)) (b:=1) (c:=((k-1:Nat):Int)) rfl rfl (Qak (by omega) (by omega)) (Qaa (Qad (V:=I6 ((k-1:Nat):Int)) rfl (Qaf ?_)))))))
   refine ⟨_,?_,_,k-1,swL m k (k-1),Qai (Qao (ds:=([17]++sq 108 21)) (by repeat (first|exact Agr.refl _ _|refine Agr.upd ?_ rfl|refine Agr.mix ?_ rfl))) rfl,(by omega),(by omega),(by rw [QhT];exact hz1),(Qoo hro (by omega)),rfl,hs.take 1⟩
   omega
  replace c19:=QQ2 c19
  refine QaH (Qaw ?_)
  refine ⟨_,Qbr Tryz.results157,?_⟩
  have hke:k=i:=by omega
  rw [hke] at hro
  have hm:=QnX hc ho1 hi1 (by omega) (by omega) hro hi2 (by rw [hie];exact hj2)
  rw [show mid+1=hi by omega] at hm
  exact ⟨m,rfl,hs.take 1,hz1,hm⟩
 replace c12:=QQ2 c12
 refine Qap (Qag (Qab (Qaa (Qac (V:=I6 (lo:Int)) rfl (Qaa (Qac (V:=I6 (hi:Int)) rfl (Qaa (QaD (a:=(lo:Int)) (b:=(hi:Int)) (c:=((lo+hi:Nat):Int)) rfl rfl (Qak (by omega) (by omega)) (Qaa (Qb4 Qh1 QdN rfl (Qdg (by omega) (by omega)) (Qaa (QiH rfl rfl (Qaa (Qb4 QdN Qh1 rfl (QbK (by omega) (by omega)) (Qaa (Qad (V:=I6 (((lo+hi)/2:Nat):Int)) rfl (Qaf (Qag (Qab (Qaa (Qac (V:=I6 (((lo+hi)/2:Nat):Int)) rfl (Qaa (Qac (V:=I6 (mid:Int)) rfl (Qaa (QaD (a:=(((lo+hi)/2:Nat):Int)) (b:=(mid:Int)) (c:=((((lo+hi)/2)+mid:Nat):Int)) rfl rfl (Qak (by omega) (by omega)) (Qaa (Qad (V:=I6 ((((lo+hi)/2)+mid:Nat):Int)) rfl (Qaf (Qag (Qab (Qaa (Qad (V:=I6 0) rfl (Qaa (Qad (V:=I6 0) rfl (Qaf (Qag (Qag (Qab (Qaa (Qac (V:=I6 (mid:Int)) rfl (Qaa (Qac (V:=I6 (((lo+hi)/2:Nat):Int)) rfl (Qaa (QbW rfl rfl (Qaf (Qf4 (fun J J' w'=>∃ (Jo:Env) (s0:Nat) (r0:Nat),J'=upd (upd (mix ([20,21]++sq 141 6) Jo J) 20 (I6 (s0:Int))) 21 (I6 (r0:Int))/\(lo<=s0)/\(s0<=r0)/\(r0<=mid)/\(r0<=(lo+hi)/2)/\((lo+hi)/2+mid<=hi+s0)/\(s0=lo∨(lo+hi)/2+mid=hi+s0)/\(r0=mid∨r0=(lo+hi)/2)/\Own w S w' [row (.slice a N c) (l.map cec) 106 7]) ?_ ?_))))))))))))))))))))))))))))))))))))))))))))))
 ·
  refine Qan (t:=decide ((((lo+hi)/2:Nat):Int)<(mid:Int))) rfl (fun c23=>?_) (fun c23=>?_)
  ·
   replace c23:=QQ1 c23
   refine Qag (Qab (Qaa (Qac (V:=I6 ((((lo+hi)/2)+mid:Nat):Int)) rfl (Qaa (Qac (V:=I6 (hi:Int)) rfl (Qaa (Qba (a:=((((lo+hi)/2)+mid:Nat):Int)) (b:=(hi:Int)) (c:=(((((lo+hi)/2)+mid)-hi:Nat):Int)) rfl rfl (Qak (by omega) (by omega)) (Qaa (Qad (V:=I6 (((((lo+hi)/2)+mid)-hi:Nat):Int)) rfl (Qaf (Qab (Qaa (Qac (V:=I6 (((lo+hi)/2:Nat):Int)) rfl (Qaa (Qad (V:=I6 (((lo+hi)/2:Nat):Int)) rfl (Qaf ?_))))))))))))))))
   exact ⟨_,(((lo+hi)/2)+mid)-hi,(lo+hi)/2,Qai (Qai (Qao (ds:=([20,21]++sq 141 6)) (by repeat (first|exact Agr.refl _ _|refine Agr.upd ?_ rfl|refine Agr.mix ?_ rfl))) rfl) rfl,(by omega),(by omega),(by omega),(by omega),(by omega),(by omega),(by omega),hs.take 1⟩
  replace c23:=QQ2 c23
  refine Qag (Qab (Qaa (Qac (V:=I6 (lo:Int)) rfl (Qaa (Qad (V:=I6 (lo:Int)) rfl (Qaf (Qab (Qaa (Qac (V:=I6 (mid:Int)) rfl (Qaa (Qad (V:=I6 (mid:Int)) rfl (Qaf ?_))))))))))))
  exact ⟨_,lo,mid,Qai (Qai (Qao (ds:=([20,21]++sq 141 6)) (by repeat (first|exact Agr.refl _ _|refine Agr.upd ?_ rfl|refine Agr.mix ?_ rfl))) rfl) rfl,(by omega),(by omega),(by omega),(by omega),(by omega),(by omega),(by omega),hs.take 1⟩
 rintro J' w24 ⟨Jo,s0,r0,rfl,q1,q2,q3,q4,q5,q6,q7,hs⟩
 refine Qag (Qab (Qaa (Qac (V:=I6 ((((lo+hi)/2)+mid:Nat):Int)) rfl (Qaa (Qba (a:=((((lo+hi)/2)+mid:Nat):Int)) (b:=1) (c:=(((((lo+hi)/2)+mid)-1:Nat):Int)) rfl rfl (Qak (by omega) (by omega)) (Qaa (Qad (V:=I6 (((((lo+hi)/2)+mid)-1:Nat):Int)) rfl (Qaf (Qag (Qam (QaA (fun J μ J' w'=>∃ (Jo:Env) (s:Nat) (r:Nat),J'=upd (upd (mix ([20,21,23]++sq 149 26) Jo J) 20 (I6 (s:Int))) 21 (I6 (r:Int))/\(s0<=s)/\(s<=r)/\(r<=r0)/\(s=s0∨¬cf (gd l ((lo+hi)/2+mid-1-(s-1))) (gd l (s-1))<0)/\(r=r0∨cf (gd l ((lo+hi)/2+mid-1-r)) (gd l r)<0)/\μ=r-s/\Own w S w' [row (.slice a N c) (l.map cec) 106 7]) ?_ ?_)))))))))))
 ·exact ⟨_,_,s0,r0,Qai (Qai (Qao (ds:=([20,21,23]++sq 149 26)) (Agr.refl _ _)) rfl) rfl,(Nat.le_refl _),(by omega),(Nat.le_refl _),(Or.inl rfl),(Or.inl rfl),rfl,hs⟩
 rintro μ J' w25 ⟨Jo,s,r,rfl,hs1,hsr,hr1,hs2,hr2,rfl,hs⟩
 refine Qag (Qag (Qab (Qaa (Qac (V:=I6 (s:Int)) rfl (Qaa (Qac (V:=I6 (r:Int)) rfl (Qaa (QaS rfl rfl (Qaf (Qan (t:=decide ((s:Int)<(r:Int))) rfl (fun c26=>?_) (fun c26=>?_)))))))))))
 ·
  replace c26:=QQ1 c26
  refine Qap (Qam (Qag (Qab (Qaa (Qac (V:=I6 (s:Int)) rfl (Qaa (Qac (V:=I6 (r:Int)) rfl (Qaa (QaD (a:=(s:Int)) (b:=(r:Int)) (c:=((s+r:Nat):Int)) rfl rfl (Qak (by omega) (by omega)) (Qaa (Qb4 Qh1 QdN rfl (Qdg (by omega) (by omega)) (Qaa (QiH rfl rfl (Qaa (Qb4 QdN Qh1 rfl (QbK (by omega) (by omega)) (Qaa (Qad (V:=I6 (((s+r)/2:Nat):Int)) rfl (Qaf (Qag (QaJ HM [some 158,some 159,some 160,some 161,some 162,some 163,some 164,some 165,some 166,some 167,some 168,some 169,some 170,some 171] [] [0,0,0,0,12,30,62,0,0,384,896,2047,4095,8191] [pv (.func (.func g) #[] #[]),pv (.slice a N c),pv (I6 (((((lo+hi)/2)+mid)-1:Nat):Int)),pv (I6 (((s+r)/2:Nat):Int)),pv (I6 ((((((lo+hi)/2)+mid)-1)-((s+r)/2):Nat):Int)),pv (.pointer (some ⟨bkS (.slice a N c),ofS (.slice a N c)+((((((lo+hi)/2)+mid)-1)-((s+r)/2):Nat):Int).toNat*7,none⟩)),pv (.agg (cec (gd l (((((lo+hi)/2)+mid)-1)-((s+r)/2)))).toArray),pv (.slice a N c),pv (I6 (((s+r)/2:Nat):Int)),pv (.pointer (some ⟨bkS (.slice a N c),ofS (.slice a N c)+(((s+r)/2:Nat):Int).toNat*7,none⟩)),pv (.agg (cec (gd l ((s+r)/2))).toArray),pv (I6 (cf (gd l (((((lo+hi)/2)+mid)-1)-((s+r)/2))) (gd l ((s+r)/2)))),pv (.bool (decide (cf (gd l (((((lo+hi)/2)+mid)-1)-((s+r)/2))) (gd l ((s+r)/2))<0))),pv (.bool (!decide (cf (gd l (((((lo+hi)/2)+mid)-1)-((s+r)/2))) (gd l ((s+r)/2))<0)))] (fun _ _=>_) [13] (by kernel_rfl) hs ⟨?_,?_,?_,?_,?_,?_,?_,?_,?_,?_,?_,?_,?_,?_,trivial⟩ ?_))))))))))))))))))))
  ·exact oa [] fun D J w hs=>Qac (V:=.func (.func g) #[] #[]) rfl (Zz hs)
  ·exact oa [] fun D J w hs=>Qac (V:=.slice a N c) rfl (Zz hs)
  ·exact oa [] fun D J w hs=>Qac (V:=.int .i64 (((((lo+hi)/2)+mid)-1:Nat):Int)) rfl (Zz hs)
  ·exact oa [] fun D J w hs=>Qac (V:=.int .i64 (((s+r)/2:Nat):Int)) rfl (Zz hs)
  ·exact oa [2,3] fun D J w hs=>Qba (a:=(((((lo+hi)/2)+mid)-1:Nat):Int)) (b:=(((s+r)/2:Nat):Int)) (c:=((((((lo+hi)/2)+mid)-1)-((s+r)/2):Nat):Int)) rfl rfl (Qak (by omega) (by omega)) (Zz hs)
  ·exact oa [1,4] fun D J w hs=>Qax QbI QaG.1 (hs.rd 0 rfl) rfl rfl (by omega) (by rw [QQ6];omega) (Zz hs)
  ·exact oa [5] fun D J w hs=>QaV (j:=0) (vs:=cec (gd l (((((lo+hi)/2)+mid)-1)-((s+r)/2)))) (((((lo+hi)/2)+mid)-1)-((s+r)/2)) QaG (hs.rd 0 rfl) (QaW (by omega)) rfl rfl rfl (by omega) (Zz hs)
  ·exact oa [] fun D J w hs=>Qac (V:=.slice a N c) rfl (Zz hs)
  ·exact oa [] fun D J w hs=>Qac (V:=.int .i64 (((s+r)/2:Nat):Int)) rfl (Zz hs)
  ·exact oa [7,8] fun D J w hs=>Qax QbI QaG.1 (hs.rd 0 rfl) rfl rfl (by omega) (by rw [QQ6];omega) (Zz hs)
  ·exact oa [9] fun D J w hs=>QaV (j:=0) (vs:=cec (gd l ((s+r)/2))) ((s+r)/2) QaG (hs.rd 0 rfl) (QaW (by omega)) rfl rfl rfl (by omega) (Zz hs)
  ·exact oa [0,6,10] fun D J w hs=>Qf1 (vs:=[.agg (cec (gd l (((((lo+hi)/2)+mid)-1)-((s+r)/2)))).toArray,.agg (cec (gd l ((s+r)/2))).toArray]) (cs:=[]) (V:=.int .i64 (cf (gd l (((((lo+hi)/2)+mid)-1)-((s+r)/2))) (gd l ((s+r)/2)))) hg rfl rfl (hcmp _ (gd l (((((lo+hi)/2)+mid)-1)-((s+r)/2))) (gd l ((s+r)/2))) hs fun _ hs=>Zz hs
  ·exact oa [11] fun D J w hs=>QaS rfl rfl (Zz hs)
  ·exact oa [12] fun D J w hs=>Qbx rfl (Zz hs)
  rintro J1 w28 J2 hJ hs
  replace hJ:J2=upd (mix (sq 158 14) J1 _) 171 (.bool (!decide (cf (gd l (((((lo+hi)/2)+mid)-1)-((s+r)/2))) (gd l ((s+r)/2))<0))):=hJ
  subst hJ
  refine Qan (t:=!decide (cf (gd l (((((lo+hi)/2)+mid)-1)-((s+r)/2))) (gd l ((s+r)/2))<0)) rfl (fun c29=>?_) (fun c29=>?_)
  ·
   replace c29:=Qbs c29
   replace c29:=QQ2 c29
   refine Qab (Qaa (Qac (V:=I6 (((s+r)/2:Nat):Int)) rfl (Qaa (QaD (a:=(((s+r)/2:Nat):Int)) (b:=1) (c:=((((s+r)/2)+1:Nat):Int)) rfl rfl (Qak (by omega) (by omega)) (Qaa (Qad (V:=I6 ((((s+r)/2)+1:Nat):Int)) rfl (Qaf ?_)))))))
   refine ⟨_,?_,_,((s+r)/2)+1,r,Qai (Qai (Qao (ds:=([20,21,23]++sq 149 26)) (by repeat (first|exact Agr.refl _ _|refine Agr.upd ?_ rfl|refine Agr.mix ?_ rfl))) rfl) rfl,(by omega),(by omega),(by omega),(Or.inr (by rw [Nat.add_sub_cancel];exact c29)),hr2,rfl,hs.take 1⟩
   omega
  replace c29:=Qbd c29
  replace c29:=QQ1 c29
  refine Qab (Qaa (Qac (V:=I6 (((s+r)/2:Nat):Int)) rfl (Qaa (Qad (V:=I6 (((s+r)/2:Nat):Int)) rfl (Qaf ?_)))))
  refine ⟨_,?_,_,s,(s+r)/2,Qai (Qai (Qao (ds:=([20,21,23]++sq 149 26)) (by repeat (first|exact Agr.refl _ _|refine Agr.upd ?_ rfl|refine Agr.mix ?_ rfl))) rfl) rfl,(by omega),(by omega),(by omega),hs2,(Or.inr c29),rfl,hs.take 1⟩
  omega
 replace c26:=QQ2 c26
 refine QaH (Qag (Qab (Qaa (Qac (V:=I6 ((((lo+hi)/2)+mid:Nat):Int)) rfl (Qaa (Qac (V:=I6 (s:Int)) rfl (Qaa (Qba (a:=((((lo+hi)/2)+mid:Nat):Int)) (b:=(s:Int)) (c:=(((((lo+hi)/2)+mid)-s:Nat):Int)) rfl rfl (Qak (by omega) (by omega)) (Qaa (Qad (V:=I6 (((((lo+hi)/2)+mid)-s:Nat):Int)) rfl (Qaf (Qag (Qag (Qbm [some 178,some 179,some 180,some 181,some 182,some 183,some 184,some 185] [] [0,0,3,7,15,15,63,127] [pv (I6 (s:Int)),pv (I6 (mid:Int)),pv (.bool (decide ((s:Int)<(mid:Int)))),pv (.bool (decide ((s:Int)<(mid:Int)))),pg ((decide ((s:Int)<(mid:Int))) == true) (I6 (mid:Int)),pg ((decide ((s:Int)<(mid:Int))) == true) (I6 (((((lo+hi)/2)+mid)-s:Nat):Int)),pg ((decide ((s:Int)<(mid:Int))) == true) (.bool (decide ((mid:Int)<(((((lo+hi)/2)+mid)-s:Nat):Int)))),pv (.bool ((decide ((s:Int)<(mid:Int)))&&(decide ((mid:Int)<(((((lo+hi)/2)+mid)-s:Nat):Int)))))] (fun _ _=>_) [7] (by kernel_rfl) hs ⟨?_,?_,?_,?_,?_,?_,?_,?_,trivial⟩ ?_))))))))))))))
 ·exact oa [] fun D J w hs=>Qac (V:=.int .i64 (s:Int)) rfl (Zz hs)
 ·exact oa [] fun D J w hs=>Qac (V:=.int .i64 (mid:Int)) rfl (Zz hs)
 ·exact oa [0,1] fun D J w hs=>QaS rfl rfl (Zz hs)
 ·exact oa [2] fun D J w hs=>Qac (V:=.bool (decide ((s:Int)<(mid:Int)))) rfl (Zz hs)
 ·exact og [3] fun D J w hG hs=>Qac (V:=.int .i64 (mid:Int)) rfl (Zz hs)
 ·exact og [3] fun D J w hG hs=>Qac (V:=.int .i64 (((((lo+hi)/2)+mid)-s:Nat):Int)) rfl (Zz hs)
 ·exact oy [3,4,5] [4,5] fun D J w hG hs=>QaS rfl rfl (Zz hs)
 ·exact oa [3,6] fun D J w hs=>Qa7 (h':=decide ((mid:Int)<(((((lo+hi)/2)+mid)-s:Nat):Int))) rfl rfl rfl (Zz hs)
 rintro J1 w30 J2 hJ hs
 replace hJ:J2=upd (mix (sq 178 8) J1 _) 185 (.bool ((decide ((s:Int)<(mid:Int)))&&(decide ((mid:Int)<(((((lo+hi)/2)+mid)-s:Nat):Int))))):=hJ
 subst hJ
 have hse:s=r:=by omega
 rw [← hse] at hr2
 have hg1:=QsB (lo:=lo) (hi:=hi) (e:=(lo+hi)/2+mid-s) hs2 q6 hs1 rfl
 have hg2:=Qs3 (md:=(lo+hi)/2) (e:=(lo+hi)/2+mid-s) hr2 q7 rfl rfl (by omega)
 refine Qf4 (fun J J' w'=>∃ (Jo:Env) (m1:List Cen),J'=mix (sq 186 6) Jo J/\(m1.length=N)/\(Qb2 l m1 s mid ((lo+hi)/2+mid-s))/\Own w S w' [row (.slice a N c) (m1.map cec) 106 7]) ?_ ?_
 ·
  refine Qan (t:=(decide ((s:Int)<(mid:Int)))&&(decide ((mid:Int)<(((((lo+hi)/2)+mid)-s:Nat):Int)))) rfl (fun c31=>?_) (fun c31=>?_)
  ·
   have c31r:=QbG c31
   replace c31:=QbC c31
   replace c31:=QQ1 c31
   replace c31r:=QQ1 c31r
   refine Qab (Qaa (Qac (V:=.slice a N c) rfl (Qaa (Qac (V:=I6 (s:Int)) rfl (Qaa (Qac (V:=I6 (mid:Int)) rfl (Qaa (Qac (V:=I6 (((((lo+hi)/2)+mid)-s:Nat):Int)) rfl (Qaa (Qac (V:=.func (.func g) #[] #[]) rfl (Qaa (Qbu (α:=List Cen) (vs:=[.slice a N c,I6 (s:Int),I6 (mid:Int),I6 (((((lo+hi)/2)+mid)-s:Nat):Int),.func (.func g) #[] #[]]) (V:=fun _=>.tuple #[]) (R:=row (.slice a N c) (l.map cec) 106 7) (R':=fun x=>row (.slice a N c) (x.map cec) 106 7) (Lo:=fun _=>[]) (F:=fun x _=>x.length=N/\Qb2 l x s mid ((((lo+hi)/2)+mid)-s)) Qsp rfl rfl hs 0 rfl (fun S hS hlt=>Qtm _ S a N c l hz hN s mid ((((lo+hi)/2)+mid)-s) (by omega) (by omega) (by omega) g hg cf hc hcmp hS hlt) fun mz32 w33 hs hF34=>(Qaf ?_)))))))))))))
   exact ⟨_,mz32,Qao (ds:=(sq 186 6)) (by repeat (first|exact Agr.refl _ _|refine Agr.upd ?_ rfl|refine Agr.mix ?_ rfl)),hF34.1,hF34.2,hs.take 1⟩
  refine Qap ?_
  exact ⟨_,l,Qao (ds:=(sq 186 6)) (by repeat (first|exact Agr.refl _ _|refine Agr.upd ?_ rfl|refine Agr.mix ?_ rfl)),hz,(Qb2.refl (by omega) (by omega) (by omega) (by
 have ht:=c31
 rcases Nat.lt_or_ge s mid with q|q
 ·right;simp [q] at ht;omega
 ·left;omega)),hs.take 1⟩
 rintro J' w35 ⟨Jo,m1,rfl,hz1,hro,hs⟩
 have hmd:s+((lo+hi)/2+mid-s-mid)=(lo+hi)/2:=by omega
 have hh:=Qfd hc ho1 ho2 (by omega) (by omega) (by omega) (by omega) hro hg1 hg2
 rw [hmd] at hh
 obtain ⟨k1,k2,k3,k4,k5⟩:=hh
 refine Qag (Qag (Qbm [some 192,some 193,some 194,some 195,some 196,some 197,some 198,some 199] [] [0,0,3,7,15,15,63,127] [pv (I6 (lo:Int)),pv (I6 (s:Int)),pv (.bool (decide ((lo:Int)<(s:Int)))),pv (.bool (decide ((lo:Int)<(s:Int)))),pg ((decide ((lo:Int)<(s:Int))) == true) (I6 (s:Int)),pg ((decide ((lo:Int)<(s:Int))) == true) (I6 (((lo+hi)/2:Nat):Int)),pg ((decide ((lo:Int)<(s:Int))) == true) (.bool (decide ((s:Int)<(((lo+hi)/2:Nat):Int)))),pv (.bool ((decide ((lo:Int)<(s:Int)))&&(decide ((s:Int)<(((lo+hi)/2:Nat):Int)))))] (fun _ _=>_) [7] (by kernel_rfl) hs ⟨?_,?_,?_,?_,?_,?_,?_,?_,trivial⟩ ?_))
 ·exact oa [] fun D J w hs=>Qac (V:=.int .i64 (lo:Int)) rfl (Zz hs)
 ·exact oa [] fun D J w hs=>Qac (V:=.int .i64 (s:Int)) rfl (Zz hs)
 ·exact oa [0,1] fun D J w hs=>QaS rfl rfl (Zz hs)
 ·exact oa [2] fun D J w hs=>Qac (V:=.bool (decide ((lo:Int)<(s:Int)))) rfl (Zz hs)
 ·exact og [3] fun D J w hG hs=>Qac (V:=.int .i64 (s:Int)) rfl (Zz hs)
 ·exact og [3] fun D J w hG hs=>Qac (V:=.int .i64 (((lo+hi)/2:Nat):Int)) rfl (Zz hs)
 ·exact oy [3,4,5] [4,5] fun D J w hG hs=>QaS rfl rfl (Zz hs)
 ·exact oa [3,6] fun D J w hs=>Qa7 (h':=decide ((s:Int)<(((lo+hi)/2:Nat):Int))) rfl rfl rfl (Zz hs)
 rintro J1 w36 J2 hJ hs
 replace hJ:J2=upd (mix (sq 192 8) J1 _) 199 (.bool ((decide ((lo:Int)<(s:Int)))&&(decide ((s:Int)<(((lo+hi)/2:Nat):Int))))):=hJ
 subst hJ
 refine Qf4 (fun J J' w'=>∃ (Jo:Env) (m2:List Cen),J'=mix (sq 200 6) Jo J/\(m2.length=N)/\(Merged cf m1 m2 lo ((lo+hi)/2))/\Own w S w' [row (.slice a N c) (m2.map cec) 106 7]) ?_ ?_
 ·
  refine Qan (t:=(decide ((lo:Int)<(s:Int)))&&(decide ((s:Int)<(((lo+hi)/2:Nat):Int)))) rfl (fun c37=>?_) (fun c37=>?_)
  ·
   have c37r:=QbG c37
   replace c37:=QbC c37
   replace c37:=QQ1 c37
   replace c37r:=QQ1 c37r
   refine Qab (Qaa (Qac (V:=.slice a N c) rfl (Qaa (Qac (V:=I6 (lo:Int)) rfl (Qaa (Qac (V:=I6 (s:Int)) rfl (Qaa (Qac (V:=I6 (((lo+hi)/2:Nat):Int)) rfl (Qaa (Qac (V:=.func (.func g) #[] #[]) rfl (Qaa (Qbu (α:=List Cen) (vs:=[.slice a N c,I6 (lo:Int),I6 (s:Int),I6 (((lo+hi)/2:Nat):Int),.func (.func g) #[] #[]]) (V:=fun _=>.tuple #[]) (R:=row (.slice a N c) (m1.map cec) 106 7) (R':=fun x=>row (.slice a N c) (x.map cec) 106 7) (Lo:=fun _=>[]) (F:=fun x _=>x.length=N/\Merged cf m1 x lo ((lo+hi)/2)) Qjz rfl rfl hs 0 rfl (fun S hS hlt=>ih _ S a N c m1 lo s ((lo+hi)/2) hz1 hN (by omega) (by omega) (by omega) (by omega) k1 k2 hS hlt) fun mz38 w39 hs hF40=>(Qaf ?_)))))))))))))
   exact ⟨_,mz38,Qao (ds:=(sq 200 6)) (by repeat (first|exact Agr.refl _ _|refine Agr.upd ?_ rfl|refine Agr.mix ?_ rfl)),hF40.1,hF40.2,hs.take 1⟩
  refine Qap ?_
  exact ⟨_,m1,Qao (ds:=(sq 200 6)) (by repeat (first|exact Agr.refl _ _|refine Agr.upd ?_ rfl|refine Agr.mix ?_ rfl)),hz1,(⟨Qbh.refl m1 (by omega) (by omega),by
 have ht:=c37
 rcases Nat.lt_or_ge lo s with q|q
 ·have q2:(lo+hi)/2<=s:=by simp [q] at ht;omega
  exact k1.sub (Nat.le_refl _) q2
 ·exact k2.sub q (Nat.le_refl _)⟩),hs.take 1⟩
 rintro J' w41 ⟨Jo,m2,rfl,hz2,hmg,hs⟩
 have k3b:=k3.out hmg.1 (.inr (Nat.le_refl _))
 have k4b:=k4.out hmg.1 (.inr (by omega))
 refine Qag (Qbm [some 206,some 207,some 208,some 209,some 210,some 211,some 212,some 213] [] [0,0,3,7,15,15,63,127] [pv (I6 (((lo+hi)/2:Nat):Int)),pv (I6 (((((lo+hi)/2)+mid)-s:Nat):Int)),pv (.bool (decide ((((lo+hi)/2:Nat):Int)<(((((lo+hi)/2)+mid)-s:Nat):Int)))),pv (.bool (decide ((((lo+hi)/2:Nat):Int)<(((((lo+hi)/2)+mid)-s:Nat):Int)))),pg ((decide ((((lo+hi)/2:Nat):Int)<(((((lo+hi)/2)+mid)-s:Nat):Int))) == true) (I6 (((((lo+hi)/2)+mid)-s:Nat):Int)),pg ((decide ((((lo+hi)/2:Nat):Int)<(((((lo+hi)/2)+mid)-s:Nat):Int))) == true) (I6 (hi:Int)),pg ((decide ((((lo+hi)/2:Nat):Int)<(((((lo+hi)/2)+mid)-s:Nat):Int))) == true) (.bool (decide ((((((lo+hi)/2)+mid)-s:Nat):Int)<(hi:Int)))),pv (.bool ((decide ((((lo+hi)/2:Nat):Int)<(((((lo+hi)/2)+mid)-s:Nat):Int)))&&(decide ((((((lo+hi)/2)+mid)-s:Nat):Int)<(hi:Int)))))] (fun _ _=>_) [7] (by kernel_rfl) hs ⟨?_,?_,?_,?_,?_,?_,?_,?_,trivial⟩ ?_)
 ·exact oa [] fun D J w hs=>Qac (V:=.int .i64 (((lo+hi)/2:Nat):Int)) rfl (Zz hs)
 ·exact oa [] fun D J w hs=>Qac (V:=.int .i64 (((((lo+hi)/2)+mid)-s:Nat):Int)) rfl (Zz hs)
 ·exact oa [0,1] fun D J w hs=>QaS rfl rfl (Zz hs)
 ·exact oa [2] fun D J w hs=>Qac (V:=.bool (decide ((((lo+hi)/2:Nat):Int)<(((((lo+hi)/2)+mid)-s:Nat):Int)))) rfl (Zz hs)
 ·exact og [3] fun D J w hG hs=>Qac (V:=.int .i64 (((((lo+hi)/2)+mid)-s:Nat):Int)) rfl (Zz hs)
 ·exact og [3] fun D J w hG hs=>Qac (V:=.int .i64 (hi:Int)) rfl (Zz hs)
 ·exact oy [3,4,5] [4,5] fun D J w hG hs=>QaS rfl rfl (Zz hs)
 ·exact oa [3,6] fun D J w hs=>Qa7 (h':=decide ((((((lo+hi)/2)+mid)-s:Nat):Int)<(hi:Int))) rfl rfl rfl (Zz hs)
 rintro J1 w42 J2 hJ hs
 replace hJ:J2=upd (mix (sq 206 8) J1 _) 213 (.bool ((decide ((((lo+hi)/2:Nat):Int)<(((((lo+hi)/2)+mid)-s:Nat):Int)))&&(decide ((((((lo+hi)/2)+mid)-s:Nat):Int)<(hi:Int))))):=hJ
 subst hJ
 refine Qf4 (fun J J' w'=>∃ (Jo:Env) (m3:List Cen),J'=mix (sq 214 6) Jo J/\(m3.length=N)/\(Merged cf m2 m3 ((lo+hi)/2) hi)/\Own w S w' [row (.slice a N c) (m3.map cec) 106 7]) ?_ ?_
 ·
  refine Qan (t:=(decide ((((lo+hi)/2:Nat):Int)<(((((lo+hi)/2)+mid)-s:Nat):Int)))&&(decide ((((((lo+hi)/2)+mid)-s:Nat):Int)<(hi:Int)))) rfl (fun c43=>?_) (fun c43=>?_)
  ·
   have c43r:=QbG c43
   replace c43:=QbC c43
   replace c43:=QQ1 c43
   replace c43r:=QQ1 c43r
   refine Qab (Qaa (Qac (V:=.slice a N c) rfl (Qaa (Qac (V:=I6 (((lo+hi)/2:Nat):Int)) rfl (Qaa (Qac (V:=I6 (((((lo+hi)/2)+mid)-s:Nat):Int)) rfl (Qaa (Qac (V:=I6 (hi:Int)) rfl (Qaa (Qac (V:=.func (.func g) #[] #[]) rfl (Qaa (Qbu (α:=List Cen) (vs:=[.slice a N c,I6 (((lo+hi)/2:Nat):Int),I6 (((((lo+hi)/2)+mid)-s:Nat):Int),I6 (hi:Int),.func (.func g) #[] #[]]) (V:=fun _=>.tuple #[]) (R:=row (.slice a N c) (m2.map cec) 106 7) (R':=fun x=>row (.slice a N c) (x.map cec) 106 7) (Lo:=fun _=>[]) (F:=fun x _=>x.length=N/\Merged cf m2 x ((lo+hi)/2) hi) Qjz rfl rfl hs 0 rfl (fun S hS hlt=>ih _ S a N c m2 ((lo+hi)/2) ((((lo+hi)/2)+mid)-s) hi hz2 hN (by omega) (by omega) (by omega) (by omega) k3b k4b hS hlt) fun mz44 w45 hs hF46=>(Qaf ?_)))))))))))))
   exact ⟨_,mz44,Qao (ds:=(sq 214 6)) (by repeat (first|exact Agr.refl _ _|refine Agr.upd ?_ rfl|refine Agr.mix ?_ rfl)),hF46.1,hF46.2,hs.take 1⟩
  refine Qap ?_
  exact ⟨_,m2,Qao (ds:=(sq 214 6)) (by repeat (first|exact Agr.refl _ _|refine Agr.upd ?_ rfl|refine Agr.mix ?_ rfl)),hz2,(⟨Qbh.refl m2 (by omega) (by omega),by
 have ht:=c43
 rcases Nat.lt_or_ge ((lo+hi)/2) ((lo+hi)/2+mid-s) with q|q
 ·have q2:hi<=(lo+hi)/2+mid-s:=by simp [q] at ht;omega
  exact k3b.sub (Nat.le_refl _) q2
 ·exact k4b.sub q (Nat.le_refl _)⟩),hs.take 1⟩
 rintro J' w47 ⟨Jo,m3,rfl,hz3,hmg2,hs⟩
 refine ⟨_,Qbr Tryz.results157,?_⟩
 exact ⟨m3,rfl,hs.take 1,hz3,QnK (hro.perm.wide (by omega) (by omega) (by omega)) hmg hmg2 (by omega) (by omega) (by omega) k5⟩
theorem Qkf (g:Nat) (hg:En Tryz.prog g) (cf:Cen->Cen->Int) (hc:CmpO cf) (hcmp:∀ (w:World) (x y:Cen),Calls Tryz.prog g #[.agg (cec x).toArray,.agg (cec y).toArray] w (fun e w'=>e = .returned (.int .i64 (cf x y))/\Own w no w' [])) (d:Nat):Qtw Tryz.prog 157 g 106 7 cec cf d:=by
 induction d with
 | zero=>intro w S a N c l lo mid hi hz hN hd h1 h2;omega
 | succ d ih=>intro w S a N c l lo mid hi hz hN hd h1 h2 h3 ho1 ho2 hR hlt;exact QlL d g hg cf hc hcmp ih w S a N c l lo mid hi hz hN hd h1 h2 h3 ho1 ho2 hR hlt
end Tt
end Go.Proofs
