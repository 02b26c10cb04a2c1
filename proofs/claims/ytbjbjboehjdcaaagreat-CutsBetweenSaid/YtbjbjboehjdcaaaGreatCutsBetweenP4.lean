/- A part of a proof: what functions of the program compute, and plain facts on that. -/
import Derived.Test.YtbjbjboehjdcaaaGreatCutsBetweenP3
set_option linter.unusedVariables false
set_option linter.unusedSimpArgs false
set_option maxHeartbeats 4000000
set_option maxRecDepth 100000
namespace Go.Proofs
open Go Go.Vx Go.RowKit
namespace Tt
theorem Qe8 (w:World) (s:Sta) (a1:Option Addr) (c1:Nat) (a2:Option Addr) (c2:Nat) (hok:Qdx s) (hle:s.ents.length<=1000) (hlt:s.ticks.length<=1000) (hr1:Rd w (.slice a1 s.ents.length c1) 7 (s.ents.map cec)) (hr2:Rd w (.slice a2 s.ticks.length c2) 2 (s.ticks.map lsc)):Calls Tryz.prog 73 #[.agg ((vc s.known)++[(.slice a1 s.ents.length c1:Value),(.slice a2 s.ticks.length c2:Value) ]).toArray] w (fun e w'=>e = .returned (.bool (Qav s))/\Own w no w' []):=by
 refine Qai (n:=107) Tryz.func73 rfl Tryz.ntmps73 rfl ?_
 have hs:=Own.start w
 have ⟨hv0,hE0,hT0⟩:=hok
 have hn1:=hr1.sml
 have hn2:=hr2.sml
 refine Qag (Qab (Qaa (Qa4 (V:=.agg ((vc s.known)++[(.slice a1 s.ents.length c1:Value),(.slice a2 s.ticks.length c2:Value) ]).toArray) (cs:=(vc s.known)++[(.slice a1 s.ents.length c1:Value),(.slice a2 s.ticks.length c2:Value) ]) rfl rfl hs fun b1 w2 hs=>(Qaa (Qad (V:=.bool false) rfl (Qae (Qag (Qag (Qab (Qaa (Qaf QeD rfl (Qaa (QbY (vs:=vc s.known) Qbk hs 0 rfl rfl rfl rfl (Qaa (Qat (vs:=[.agg (vc s.known).toArray,I6 16]) (V:=.bool (QaR s.known 16)) Qry rfl rfl ?hc hs fun w3 hs=>?_)))))))))))))))
 case hc=>exact (QfU _ s.known 16 (by first|assumption|exact QcD))
 refine Qaa (Qbz rfl (Qae (Qam (t:=!(QaR s.known 16)) rfl (fun c4=>?_) (fun c4=>?_))))
 ·
  replace c4:=Qby c4
  refine Qag (Qab (Qaa (Qad (V:=.bool false) rfl (Qae (Qaw ?_)))))
  refine ⟨_,Qaq (V:=.bool false) Tryz.results73 rfl,(Zr hs ?_)⟩
  exact congrArg Value.bool (Qlw c4).symm
 replace c4:=Qbu c4
 refine Qao (Qag (Qag (Qab (Qaa (Qaf QcI rfl (Qaa (QaQ (V:=.slice a2 s.ticks.length c2) Qfi hs 0 rfl rfl rfl (Qaa (Qa3 (n:=s.ticks.length) Qem (Rd.own' hr2 hs) (by simp) rfl (Qaa (Qac (V:=I6 0) rfl (Qae (Qan (QaD (fun J μ J' w'=>∃ (Jo:Env) (k:Nat),J'=upd (mix ([2,3,4]++sq 19 25) Jo J) 19 (I6 (k:Int))/\(k<=s.ticks.length)/\(∀ j:Nat,j<k->Qn7 s.ticks j=false)/\μ=s.ticks.length-k/\Own w no w' [blk b1 ((vc s.known)++[(.slice a1 s.ents.length c1:Value),(.slice a2 s.ticks.length c2:Value) ]) 38]) ?_ ?_))))))))))))))
 ·exact ⟨_,_,0,Qal (Qap (ds:=([2,3,4]++sq 19 25)) (Agr.refl _ _)) rfl,(by omega),(fun j hj=>absurd hj (Nat.not_lt_zero j)),rfl,hs⟩
 rintro μ J' w5 ⟨Jo,k,rfl,hk,hbt,rfl,hs⟩
 refine Qag (Qab (Qaa (Qa2 rfl rfl (Qae (Qag (Qam (t:=decide ((k:Int)<((s.ticks.length:Nat):Int))) rfl (fun c6=>?_) (fun c6=>?_)))))))
 ·
  replace c6:=QQ1 c6
  refine Qao (Qag (Qan (Qag (Qab (Qaa (Qac (V:=I6 (k:Int)) rfl (Qaa (Qax Qem QbP.1 (Rd.own' hr2 hs) rfl rfl (by omega) (by rw [QQ6];omega) (Qaa (Qbb (j:=0) (vs:=lsc (gd s.ticks k)) k QbP (Rd.own' hr2 hs) (Qba (by omega)) rfl rfl rfl (by omega) (Qaa (QaK (cs:=lsc (⟨0,0⟩:Lst)) QkM rfl hs fun b7 w8 hs=>(Qaa (Qad (V:=I6 (k:Int)) rfl (Qaa (Qcx (V:=.agg (lsc (gd s.ticks k)).toArray) (vs:=lsc (gd s.ticks k)) (cs':=lsc (gd s.ticks k)) QbP.1 hs 1 rfl rfl rfl rfl rfl (QQ8 rfl) (Qcf _) (Qaz rfl) fun w9 hs=>(Qae (Qag (QaH HM [some 24,some 25,some 26,some 27,some 28,some 29,some 30,some 31,some 32,some 33,some 34,some 35,some 36,some 37,some 38,some 39,some 40,some 41,some 42] [] [0,1,3,7,15,31,63,127,255,127,639,2047,4095,8191,127,16511,65535,131071,262143] [pv (Pq b7 (0+1)),pv (.int .u32 ((gd s.ticks k).tick)),pv (.bool (decide (1073741824<(gd s.ticks k).tick))),pv (.bool (decide (1073741824<(gd s.ticks k).tick))),pg ((decide (1073741824<(gd s.ticks k).tick)) == false) (I6 (k:Int)),pg ((decide (1073741824<(gd s.ticks k).tick)) == false) (.bool (decide (0<(k:Int)))),pg ((decide (1073741824<(gd s.ticks k).tick)) == false) (.bool (decide (0<(k:Int)))),pg (((decide (1073741824<(gd s.ticks k).tick)) == false)&&((decide (0<(k:Int))) == true)) (Pq b1 (0+17)),pg (((decide (1073741824<(gd s.ticks k).tick)) == false)&&((decide (0<(k:Int))) == true)) (.slice a2 s.ticks.length c2),pg (((decide (1073741824<(gd s.ticks k).tick)) == false)&&((decide (0<(k:Int))) == true)) (I6 (k:Int)),pg (((decide (1073741824<(gd s.ticks k).tick)) == false)&&((decide (0<(k:Int))) == true)) (I6 ((k-1:Nat):Int)),pg (((decide (1073741824<(gd s.ticks k).tick)) == false)&&((decide (0<(k:Int))) == true)) (.pointer (some ⟨bkS (.slice a2 s.ticks.length c2),ofS (.slice a2 s.ticks.length c2)+((k-1:Nat):Int).toNat*2,none⟩)),pg (((decide (1073741824<(gd s.ticks k).tick)) == false)&&((decide (0<(k:Int))) == true)) (.pointer (some ⟨bkS (.slice a2 s.ticks.length c2),ofS (.slice a2 s.ticks.length c2)+((k-1:Nat):Int).toNat*2+0,none⟩)),pg (((decide (1073741824<(gd s.ticks k).tick)) == false)&&((decide (0<(k:Int))) == true)) (I7 ((gd s.ticks (k-1)).cart)),pg (((decide (1073741824<(gd s.ticks k).tick)) == false)&&((decide (0<(k:Int))) == true)) (Pq b7 (0+0)),pg (((decide (1073741824<(gd s.ticks k).tick)) == false)&&((decide (0<(k:Int))) == true)) (I7 ((gd s.ticks k).cart)),pg (((decide (1073741824<(gd s.ticks k).tick)) == false)&&((decide (0<(k:Int))) == true)) (.bool (decide ((gd s.ticks k).cart<=(gd s.ticks (k-1)).cart))),pg ((decide (1073741824<(gd s.ticks k).tick)) == false) (.bool ((decide (0<(k:Int)))&&(decide ((gd s.ticks k).cart<=(gd s.ticks (k-1)).cart)))),pv (.bool ((decide (1073741824<(gd s.ticks k).tick))||((decide (0<(k:Int)))&&(decide ((gd s.ticks k).cart<=(gd s.ticks (k-1)).cart)))))] (fun _ _=>_) [18] (by kernel_rfl) hs ⟨?_,?_,?_,?_,?_,?_,?_,?_,?_,?_,?_,?_,?_,?_,?_,?_,?_,?_,?_,trivial⟩ ?_)))))))))))))))))))
  ·exact oa [] fun D J w hs=>Qaf Qed rfl (Zz hs)
  ·exact oa [0] fun D J w hs=>QaQ (V:=.int .u32 ((gd s.ticks k).tick)) QaX hs 1 rfl rfl rfl (Zz hs)
  ·exact oa [1] fun D J w hs=>Qb2 rfl rfl (Zz hs)
  ·exact oa [2] fun D J w hs=>Qac (V:=.bool (decide (1073741824<(gd s.ticks k).tick))) rfl (Zz hs)
  ·exact og [3] fun D J w hG hs=>Qac (V:=.int .i64 (k:Int)) rfl (Zz hs)
  ·exact oy [3,4] [4] fun D J w hG hs=>Qb2 rfl rfl (Zz hs)
  ·exact oy [3,5] [5] fun D J w hG hs=>Qac (V:=.bool (decide (0<(k:Int)))) rfl (Zz hs)
  ·exact og [6] fun D J w hG hs=>Qaf QcI rfl (Zz hs)
  ·exact oy [6,7] [7] fun D J w hG hs=>QaQ (V:=.slice a2 s.ticks.length c2) Qfi hs 0 rfl rfl rfl (Zz hs)
  ·exact og [6] fun D J w hG hs=>Qac (V:=.int .i64 (k:Int)) rfl (Zz hs)
  ·refine oy [6,9] [9] fun D J w hG hs=>?_
   have hgd0:=QQ2 (eq_of_beq (Qb3 (hG)))
   have hgd1:=QQ1 (eq_of_beq (Qcy (hG)))
   exact Qa5 (a:=(k:Int)) (b:=1) (c:=((k-1:Nat):Int)) rfl rfl (Qak (by omega) (by omega)) (Zz hs)
  ·refine oy [6,8,10] [8,10] fun D J w hG hs=>?_
   have hgd0:=QQ2 (eq_of_beq (Qb3 (hG)))
   have hgd1:=QQ1 (eq_of_beq (Qcy (hG)))
   exact Qax Qem QbP.1 (Rd.own' hr2 hs) rfl rfl (by omega) (by rw [QQ6];omega) (Zz hs)
  ·exact oy [6,11] [11] fun D J w hG hs=>Qaf Qec rfl (Zz hs)
  ·refine oy [6,12] [12] fun D J w hG hs=>?_
   have hgd0:=QQ2 (eq_of_beq (Qb3 (hG)))
   have hgd1:=QQ1 (eq_of_beq (Qcy (hG)))
   exact QaW (j:=0) (V:=.int .u16 ((gd s.ticks (k-1)).cart)) (k-1) Qar (Rd.own' hr2 hs) (Qba (by omega)) rfl rfl (by omega) (Zz hs)
  ·exact og [6] fun D J w hG hs=>Qaf Qec rfl (Zz hs)
  ·exact oy [6,14] [14] fun D J w hG hs=>QaQ (V:=.int .u16 ((gd s.ticks k).cart)) Qar hs 1 rfl rfl rfl (Zz hs)
  ·exact oy [6,13,15] [13,15] fun D J w hG hs=>QcZ rfl rfl (Zz hs)
  ·exact oy [3,6,16] [6] fun D J w hG hs=>Qj9 (h':=decide ((gd s.ticks k).cart<=(gd s.ticks (k-1)).cart)) (G:=((decide (1073741824<(gd s.ticks k).tick)) == false)) hG rfl rfl rfl (Zz hs)
  ·exact oa [3,17] fun D J w hs=>Qcs (h':=(decide (0<(k:Int)))&&(decide ((gd s.ticks k).cart<=(gd s.ticks (k-1)).cart))) rfl rfl rfl (Zz hs)
  rintro J1 w10 J2 hJ hs
  replace hJ:J2=upd (mix (sq 24 19) J1 _) 42 (.bool ((decide (1073741824<(gd s.ticks k).tick))||((decide (0<(k:Int)))&&(decide ((gd s.ticks k).cart<=(gd s.ticks (k-1)).cart))))):=hJ
  subst hJ
  refine Qam (t:=(decide (1073741824<(gd s.ticks k).tick))||((decide (0<(k:Int)))&&(decide ((gd s.ticks k).cart<=(gd s.ticks (k-1)).cart)))) rfl (fun c11=>?_) (fun c11=>?_)
  ·
   refine Qag (Qab (Qaa (Qad (V:=.bool false) rfl (Qae (Qaw ?_)))))
   refine ⟨_,Qaq (V:=.bool false) Tryz.results73 rfl,(Zr hs ?_)⟩
   exact congrArg Value.bool (Qk5 (i:=k) (by omega) (by unfold Qn7;have hq:=c11;simpa using hq)).symm
  have c11r:=QgD c11
  replace c11:=QgK c11
  replace c11:=QQ2 c11
  refine Qao (Qab (Qaa (QaF (a:=(k:Int)) (b:=1) (c:=((k+1:Nat):Int)) rfl rfl (Qak (by omega) (by omega)) (Qaa (Qac (V:=I6 ((k+1:Nat):Int)) rfl (Qae ?_))))))
  refine ⟨_,?_,_,k+1,Qal (Qap (ds:=([2,3,4]++sq 19 25)) (by repeat (first|exact Agr.refl _ _|refine Agr.upd ?_ rfl|refine Agr.mix ?_ rfl))) rfl,(by omega),(QcO hbt (by unfold Qn7;rw [QQ4 c11,Bool.false_or];have hq:=c11r;simpa using hq)),rfl,hs.take 1⟩
  omega
 replace c6:=QQ2 c6
 refine QaJ (Qag (Qab (Qaa (Qgw rfl hs dv uv fun mr12 w13 hs=>(Qaa (Qad (V:=.map (some mr12)) rfl (Qae (Qag (Qag (Qab (Qaa (Qaf Qdb rfl (Qaa (QaQ (V:=.slice a1 s.ents.length c1) Qgf hs 0 rfl rfl rfl (Qaa (Qa3 (n:=s.ents.length) QbC (Rd.own' hr1 hs) (by simp) rfl (Qaa (Qac (V:=I6 0) rfl (Qae (Qan ?_))))))))))))))))))))
 have hbt2:=fun j (hj:j<s.ticks.length)=>hbt j (by omega)
 have hT:QdG s.ticks:=by have:=Qp9 (Nat.le_refl _) hbt2;rwa [List.take_length] at this
 refine QaD (fun J μ J' w'=>∃ (Jo:Env) (k2:Nat) (sm:List (Dot × Unit)),J'=upd (mix ([2]++sq 6 6++sq 48 59) Jo J) 48 (I6 (k2:Int))/\(k2<=s.ents.length)/\(∀ j:Nat,j<k2->QjM s j=false)/\(sm=QiO (s.ents.take k2))/\μ=s.ents.length-k2/\Own w no w' [blk b1 ((vc s.known)++[(.slice a1 s.ents.length c1:Value),(.slice a2 s.ticks.length c2:Value) ]) 38,QgF mr12 dv uv sm]) ?_ ?_
 ·exact ⟨_,_,0,[],Qal (Qap (ds:=([2]++sq 6 6++sq 48 59)) (Agr.refl _ _)) rfl,(by omega),(fun j hj=>absurd hj (Nat.not_lt_zero j)),rfl,rfl,hs⟩
 rintro μ J' w14 ⟨Jo,k2,sm,rfl,hk2,hbe,hsm,rfl,hs⟩
 refine Qag (Qab (Qaa (Qa2 rfl rfl (Qae (Qag (Qam (t:=decide ((k2:Int)<((s.ents.length:Nat):Int))) rfl (fun c15=>?_) (fun c15=>?_)))))))
 ·
  replace c15:=QQ1 c15
  refine Qao (Qag (Qan (Qag (Qab (Qaa (Qac (V:=I6 (k2:Int)) rfl (Qaa (Qax QbC QaB.1 (Rd.own' hr1 hs) rfl rfl (by omega) (by rw [QQ6];omega) (Qaa (Qbb (j:=0) (vs:=cec (gd s.ents k2)) k2 QaB (Rd.own' hr1 hs) (Qba (by omega)) rfl rfl rfl (by omega) (Qaa (QaK (cs:=cec (⟨0,0,0,0,(⟨0,0⟩:Dot),0⟩:Cen)) Qfz rfl hs fun b16 w17 hs=>(Qaa (Qad (V:=I6 (k2:Int)) rfl (Qaa (Qcx (V:=.agg (cec (gd s.ents k2)).toArray) (vs:=cec (gd s.ents k2)) (cs':=cec (gd s.ents k2)) QaB.1 hs 2 rfl rfl rfl rfl rfl (QQ8 rfl) (Qbj _) (Qaz rfl) fun w18 hs=>?_))))))))))))))))
  replace hs:Own w no w18 [blk b1 ((vc s.known)++[(.slice a1 s.ents.length c1:Value),(.slice a2 s.ticks.length c2:Value) ]) 38,QgF mr12 dv uv sm,blk b16 (cec (gd s.ents k2)) 106]:=hs
  refine Qae (Qag ?_)
  have hce:=hE0 _ (QbG (l:=s.ents) (i:=k2) (by omega))
  have ⟨_,_,_,_,hdk,_⟩:=hce
  refine Qab (Qaa (QaL (cs:=(vc s.known)++[(.slice a1 s.ents.length c1:Value),(.slice a2 s.ticks.length c2:Value) ]) QbU hs 0 rfl rfl rfl (Qaa (Qaf Qde rfl (Qaa (QaQ (V:=I7 ((gd s.ents k2).cart)) Qar hs 2 rfl rfl rfl (Qaa (Qat (vs:=[.agg ((vc s.known)++[(.slice a1 s.ents.length c1:Value),(.slice a2 s.ticks.length c2:Value) ]).toArray,I7 ((gd s.ents k2).cart)]) (V:=.tuple #[I6 ((QbL s.ticks ((gd s.ents k2).cart):Nat):Int),.bool ((QaM s.ticks ((gd s.ents k2).cart)).isSome)]) QrE rfl rfl ?hc hs fun w19 hs=>?_))))))))
  case hc=>exact (Qhz _ s.known (.slice a1 s.ents.length c1) a2 c2 s.ticks ((gd s.ents k2).cart) (by omega) hT (Rd.own' hr2 hs))
  refine Qaa (Qac (V:=.tuple #[I6 ((QbL s.ticks ((gd s.ents k2).cart):Nat):Int),.bool ((QaM s.ticks ((gd s.ents k2).cart)).isSome)]) rfl (Qaa (QaA (V:=I6 ((QbL s.ticks ((gd s.ents k2).cart):Nat):Int)) rfl rfl (Qaa (QaA (V:=.bool ((QaM s.ticks ((gd s.ents k2).cart)).isSome)) rfl rfl (Qaa (Qad (V:=I6 ((QbL s.ticks ((gd s.ents k2).cart):Nat):Int)) rfl (Qaa (Qad (V:=.bool ((QaM s.ticks ((gd s.ents k2).cart)).isSome)) rfl (Qae (Qag (Qab (Qaa (Qac (V:=.map (some mr12)) rfl (Qaa (Qaf QbN rfl (Qaa (QbY (vs:=dc ((gd s.ents k2).dot)) QcL hs 2 rfl rfl rfl rfl (Qaa (Qgj (k:=(gd s.ents k2).dot) QkC Qoz Qj7 (hs.mapf 1 rfl) rfl rfl (Qaa (Qac (V:=.tuple #[.agg #[],.bool ((mget ((gd s.ents k2).dot) sm).isSome)]) rfl (Qaa (QaA (V:=.agg #[]) rfl rfl (Qaa (QaA (V:=.bool ((mget ((gd s.ents k2).dot) sm).isSome)) rfl rfl (Qaa (QaK (cs:=[]) Qj7 rfl hs fun b20 w21 hs=>(Qaa (Qcx (V:=.agg #[]) (vs:=[]) (cs':=[]) Qqr.1 hs 3 rfl rfl rfl rfl rfl (QQ8 rfl) Qa1 (Qaz rfl) fun w22 hs=>(Qaa (Qad (V:=.bool ((mget ((gd s.ents k2).dot) sm).isSome)) rfl (Qae (Qag (Qan (Qag (Qag (Qab (Qaa (Qac (V:=.bool ((QaM s.ticks ((gd s.ents k2).cart)).isSome)) rfl (Qaa (Qbz rfl (Qaa (Qad (V:=.bool (!((QaM s.ticks ((gd s.ents k2).cart)).isSome))) rfl (Qae (Qam (t:=!((QaM s.ticks ((gd s.ents k2).cart)).isSome)) rfl (fun c23=>?_) (fun c23=>?_)))))))))))))))))))))))))))))))))))))))))))))))
  ·
   replace c23:=Qby c23
   refine Qao (QcN (congrArg Value.bool (by rw [c23];rfl)) ?_)
   refine Qag (Qab (Qaa (Qad (V:=.bool false) rfl (Qae (Qaw ?_)))))
   refine ⟨_,Qaq (V:=.bool false) Tryz.results73 rfl,(Zr hs (congrArg Value.bool (Qc6 (i:=k2) (by omega) ?_).symm))⟩
   unfold QjM Qjc;rw [c23];simp
  replace c23:=Qbu c23
  refine Qag (Qab (Qaa (Qac (V:=.bool ((mget ((gd s.ents k2).dot) sm).isSome)) rfl (Qaa (Qad (V:=.bool ((mget ((gd s.ents k2).dot) sm).isSome)) rfl (Qae (Qam (t:=(mget ((gd s.ents k2).dot) sm).isSome) rfl (fun c24=>?_) (fun c24=>?_))))))))
  ·
   refine Qao (QcN (congrArg Value.bool c24) ?_)
   refine Qag (Qab (Qaa (Qad (V:=.bool false) rfl (Qae (Qaw ?_)))))
   refine ⟨_,Qaq (V:=.bool false) Tryz.results73 rfl,(Zr hs (congrArg Value.bool (Qc6 (i:=k2) (by omega) ?_).symm))⟩
   unfold QjM;rw [← Qik,← hsm,c24];simp
  refine Qag (Qab (Qaa (QaL (cs:=cec (gd s.ents k2)) QaB hs 2 rfl rfl rfl (Qaa (Qat (vs:=[.agg (cec (gd s.ents k2)).toArray]) (V:=.bool (QcT (gd s.ents k2))) QsG rfl rfl ?hc hs fun w25 hs=>?_)))))
  case hc=>exact (Qle _ (gd s.ents k2) (by assumption))
  refine Qaa (Qbz rfl (Qaa (Qad (V:=.bool (!(QcT (gd s.ents k2)))) rfl (Qae (Qam (t:=!(QcT (gd s.ents k2))) rfl (fun c26=>?_) (fun c26=>?_))))))
  ·
   replace c26:=Qby c26
   refine Qao (QcN (congrArg Value.bool (by rw [c26];rfl)) ?_)
   refine Qag (Qab (Qaa (Qad (V:=.bool false) rfl (Qae (Qaw ?_)))))
   refine ⟨_,Qaq (V:=.bool false) Tryz.results73 rfl,(Zr hs (congrArg Value.bool (Qc6 (i:=k2) (by omega) ?_).symm))⟩
   unfold QjM Qjc;rw [c26];simp
  replace c26:=Qbu c26
  refine Qag (Qab (Qaa (Qaf QeD rfl (Qaa (QbY (vs:=vc s.known) Qbk hs 0 rfl rfl rfl rfl (Qaa (Qaf QbN rfl (Qaa (QbY (vs:=dc ((gd s.ents k2).dot)) QcL hs 2 rfl rfl rfl rfl (Qaa (Qat (vs:=[.agg (vc s.known).toArray,.agg (dc ((gd s.ents k2).dot)).toArray]) (V:=.bool (Qbv s.known ((gd s.ents k2).dot))) QlF rfl rfl ?hc hs fun w27 hs=>?_)))))))))))
  case hc=>exact (QgA _ s.known ((gd s.ents k2).dot) (by first|assumption|exact QcP (by omega) (by omega) (by omega) (by omega)))
  refine Qaa (Qbz rfl (Qaa (Qad (V:=.bool (!(Qbv s.known ((gd s.ents k2).dot)))) rfl (Qae (Qam (t:=!(Qbv s.known ((gd s.ents k2).dot))) rfl (fun c28=>?_) (fun c28=>?_))))))
  ·
   replace c28:=Qby c28
   refine Qao (QcN (congrArg Value.bool (by rw [c28];rfl)) ?_)
   refine Qag (Qab (Qaa (Qad (V:=.bool false) rfl (Qae (Qaw ?_)))))
   refine ⟨_,Qaq (V:=.bool false) Tryz.results73 rfl,(Zr hs (congrArg Value.bool (Qc6 (i:=k2) (by omega) ?_).symm))⟩
   unfold QjM Qjc;rw [c28];simp
  replace c28:=Qbu c28
  refine Qbw [some 80,some 81,some 82,some 83,some 84,some 85,some 86,some 87,some 67] [] [0,1,3,7,15,31,63,127,255] [pv (Pq b16 (0+6)),pv (.int .u64 ((gd s.ents k2).count)),pv (.bool (decide ((gd s.ents k2).count<1))),pv (.bool (decide ((gd s.ents k2).count<1))),pg ((decide ((gd s.ents k2).count<1)) == false) (Pq b16 (0+6)),pg ((decide ((gd s.ents k2).count<1)) == false) (.int .u64 ((gd s.ents k2).count)),pg ((decide ((gd s.ents k2).count<1)) == false) (.bool (decide (16777217<(gd s.ents k2).count))),pv (.bool ((decide ((gd s.ents k2).count<1))||(decide (16777217<(gd s.ents k2).count)))),pv (.bool ((decide ((gd s.ents k2).count<1))||(decide (16777217<(gd s.ents k2).count))))] (fun _ _=>_) [8] (by kernel_rfl) hs ⟨?_,?_,?_,?_,?_,?_,?_,?_,?_,trivial⟩ ?_
  ·exact oa [] fun D J w hs=>Qaf QfN rfl (Zz hs)
  ·exact oa [0] fun D J w hs=>QaQ (V:=.int .u64 ((gd s.ents k2).count)) Qkf hs 2 rfl rfl rfl (Zz hs)
  ·exact oa [1] fun D J w hs=>Qa2 rfl rfl (Zz hs)
  ·exact oa [2] fun D J w hs=>Qac (V:=.bool (decide ((gd s.ents k2).count<1))) rfl (Zz hs)
  ·exact og [3] fun D J w hG hs=>Qaf QfN rfl (Zz hs)
  ·exact oy [3,4] [4] fun D J w hG hs=>QaQ (V:=.int .u64 ((gd s.ents k2).count)) Qkf hs 2 rfl rfl rfl (Zz hs)
  ·exact oy [3,5] [5] fun D J w hG hs=>Qb2 rfl rfl (Zz hs)
  ·exact oa [3,6] fun D J w hs=>Qcs (h':=decide (16777217<(gd s.ents k2).count)) rfl rfl rfl (Zz hs)
  ·exact oa [7] fun D J w hs=>Qad (V:=.bool ((decide ((gd s.ents k2).count<1))||(decide (16777217<(gd s.ents k2).count)))) rfl (Zz hs)
  rintro J1 w29 J2 hJ hs
  replace hJ:J2=upd (mix (sq 80 8++[67]) J1 _) 67 (.bool ((decide ((gd s.ents k2).count<1))||(decide (16777217<(gd s.ents k2).count)))):=hJ
  subst hJ
  refine Qam (t:=(decide ((gd s.ents k2).count<1))||(decide (16777217<(gd s.ents k2).count))) rfl (fun c30=>?_) (fun c30=>?_)
  ·
   refine Qag (Qab (Qaa (Qad (V:=.bool false) rfl (Qae (Qaw ?_)))))
   refine ⟨_,Qaq (V:=.bool false) Tryz.results73 rfl,(Zr hs (congrArg Value.bool (Qc6 (i:=k2) (by omega) ?_).symm))⟩
   have hq:=c30
   unfold QjM Qjc
   rcases Int.lt_or_le (gd s.ents k2).count 1 with q|q
   ·rw [QQ4 (p:=1<=_) (by omega)];simp
   rw [QQ4 (p:=_<=16777217) (by simp at hq;omega)];simp
  have c30r:=QgD c30
  replace c30:=QgK c30
  replace c30:=QQ2 c30
  replace c30r:=QQ2 c30r
  refine Qag (QaH HM [some 89,some 90,some 91,some 92,some 93,some 94,some 95,some 96,some 97,some 98,some 99,some 100,some 101,some 88] [] [0,1,3,7,15,7,39,127,255,7,1023,2047,4095,8191] [pv (I6 (k2:Int)),pv (.bool (decide (0<(k2:Int)))),pv (.bool (decide (0<(k2:Int)))),pg ((decide (0<(k2:Int))) == true) (Pq b1 (0+16)),pg ((decide (0<(k2:Int))) == true) (.slice a1 s.ents.length c1),pg ((decide (0<(k2:Int))) == true) (I6 (k2:Int)),pg ((decide (0<(k2:Int))) == true) (I6 ((k2-1:Nat):Int)),pg ((decide (0<(k2:Int))) == true) (.pointer (some ⟨bkS (.slice a1 s.ents.length c1),ofS (.slice a1 s.ents.length c1)+((k2-1:Nat):Int).toNat*7,none⟩)),pg ((decide (0<(k2:Int))) == true) (.agg (cec (gd s.ents (k2-1))).toArray),pg ((decide (0<(k2:Int))) == true) (.agg (cec (gd s.ents k2)).toArray),pg ((decide (0<(k2:Int))) == true) (I6 (QbS (gd s.ents (k2-1)) (gd s.ents k2))),pg ((decide (0<(k2:Int))) == true) (.bool (decide (0<=QbS (gd s.ents (k2-1)) (gd s.ents k2)))),pv (.bool ((decide (0<(k2:Int)))&&(decide (0<=QbS (gd s.ents (k2-1)) (gd s.ents k2))))),pv (.bool ((decide (0<(k2:Int)))&&(decide (0<=QbS (gd s.ents (k2-1)) (gd s.ents k2)))))] (fun _ _=>_) [13] (by kernel_rfl) hs ⟨?_,?_,?_,?_,?_,?_,?_,?_,?_,?_,?_,?_,?_,?_,trivial⟩ ?_)
  ·exact oa [] fun D J w hs=>Qac (V:=.int .i64 (k2:Int)) rfl (Zz hs)
  ·exact oa [0] fun D J w hs=>Qb2 rfl rfl (Zz hs)
  ·exact oa [1] fun D J w hs=>Qac (V:=.bool (decide (0<(k2:Int)))) rfl (Zz hs)
  ·exact og [2] fun D J w hG hs=>Qaf Qdb rfl (Zz hs)
  ·exact oy [2,3] [3] fun D J w hG hs=>QaQ (V:=.slice a1 s.ents.length c1) Qgf hs 0 rfl rfl rfl (Zz hs)
  ·exact og [2] fun D J w hG hs=>Qac (V:=.int .i64 (k2:Int)) rfl (Zz hs)
  ·refine oy [2,5] [5] fun D J w hG hs=>?_
   have hgd:=QQ1 (eq_of_beq (hG))
   exact Qa5 (a:=(k2:Int)) (b:=1) (c:=((k2-1:Nat):Int)) rfl rfl (Qak (by omega) (by omega)) (Zz hs)
  ·refine oy [2,4,6] [4,6] fun D J w hG hs=>?_
   have hgd:=QQ1 (eq_of_beq (hG))
   exact Qax QbC QaB.1 (Rd.own' hr1 hs) rfl rfl (by omega) (by rw [QQ6];omega) (Zz hs)
  ·refine oy [2,7] [7] fun D J w hG hs=>?_
   have hgd:=QQ1 (eq_of_beq (hG))
   exact Qbb (j:=0) (vs:=cec (gd s.ents (k2-1))) (k2-1) QaB (Rd.own' hr1 hs) (Qba (by omega)) rfl rfl rfl (by omega) (Zz hs)
  ·exact og [2] fun D J w hG hs=>QaL (cs:=cec (gd s.ents k2)) QaB hs 2 rfl rfl rfl (Zz hs)
  ·exact oy [2,8,9] [8,9] fun D J w hG hs=>Qat (vs:=[.agg (cec (gd s.ents (k2-1))).toArray,.agg (cec (gd s.ents k2)).toArray]) (V:=.int .i64 (QbS (gd s.ents (k2-1)) (gd s.ents k2))) Qqa rfl rfl (QkL _ (gd s.ents (k2-1)) (gd s.ents k2)) hs fun _ hs=>Zz hs
  ·exact oy [2,10] [10] fun D J w hG hs=>QcZ rfl rfl (Zz hs)
  ·exact oa [2,11] fun D J w hs=>Qbn (h':=decide (0<=QbS (gd s.ents (k2-1)) (gd s.ents k2))) rfl rfl rfl (Zz hs)
  ·exact oa [12] fun D J w hs=>Qad (V:=.bool ((decide (0<(k2:Int)))&&(decide (0<=QbS (gd s.ents (k2-1)) (gd s.ents k2))))) rfl (Zz hs)
  rintro J1 w32 J2 hJ hs
  replace hJ:J2=upd (mix (sq 89 13++[88]) J1 _) 88 (.bool ((decide (0<(k2:Int)))&&(decide (0<=QbS (gd s.ents (k2-1)) (gd s.ents k2))))):=hJ
  subst hJ
  refine Qam (t:=(decide (0<(k2:Int)))&&(decide (0<=QbS (gd s.ents (k2-1)) (gd s.ents k2)))) rfl (fun c33=>?_) (fun c33=>?_)
  ·
   have c33r:=Qcy c33
   replace c33:=Qb3 c33
   replace c33:=QQ1 c33
   replace c33r:=QQ1 c33r
   refine Qag (Qab (Qaa (Qad (V:=.bool false) rfl (Qae (Qaw ?_)))))
   refine ⟨_,Qaq (V:=.bool false) Tryz.results73 rfl,(Zr hs (congrArg Value.bool (Qc6 (i:=k2) (by omega) ?_).symm))⟩
   have hq:=QQ3 c33r
   rw [Qkz] at hq
   unfold QjM
   rw [hq,QQ3 (by omega:0<k2)]
   simp
  refine Qao (Qab (Qaa (Qac (V:=.map (some mr12)) rfl (Qaa (Qaf QbN rfl (Qaa (QbY (vs:=dc ((gd s.ents k2).dot)) QcL hs 2 rfl rfl rfl rfl (Qaa (QbD (vs:=[]) (cs:=[]) Qqh (rfl) rfl (Qaa (QfK (k:=(gd s.ents k2).dot) (v:=()) QkC Qoz hs 1 rfl rfl rfl rfl fun w34 hs=>(Qae (Qab (Qaa (QaF (a:=(k2:Int)) (b:=1) (c:=((k2+1:Nat):Int)) rfl rfl (Qak (by omega) (by omega)) (Qaa (Qac (V:=I6 ((k2+1:Nat):Int)) rfl (Qae ?_))))))))))))))))))
  have hbk:QjM s k2=false:=by
   unfold QjM Qjc
   rw [c23,c26,c28,QQ3 (p:=1<=_) (by omega),QQ3 (p:=_<=16777217) (by omega),← Qik,← hsm,c24]
   have hq:=c33
   rw [Qkz] at hq
   simpa using hq
  refine ⟨_,?_,_,k2+1,mput ((gd s.ents k2).dot) () sm,Qal (Qap (ds:=([2]++sq 6 6++sq 48 59)) (by repeat (first|exact Agr.refl _ _|refine Agr.upd ?_ rfl|refine Agr.mix ?_ rfl))) rfl,(by omega),(QcO hbe hbk),(by rw [QkR (by omega),← hsm]),rfl,hs.take 2⟩
  omega
 replace c15:=QQ2 c15
 refine QaJ (Qag (Qab (Qaa (Qad (V:=.bool true) rfl (Qae (Qaw ?_))))))
 refine ⟨_,Qaq (V:=.bool true) Tryz.results73 rfl,(Zr hs ?_)⟩
 exact congrArg Value.bool (QcH.2 (Qip c4 hbt2 fun j hj=>hbe j (by omega))).symm
end Tt
end Go.Proofs
namespace Go.Proofs
open Go Go.Vx Go.RowKit
namespace Tt
theorem QpK (w:World) (o:Opn):Calls Tryz.prog 90 #[.agg (oc o).toArray] w (fun e w'=>e = .returned (.bool (QbA o))/\Own w no w' []):=by
 refine Qai (n:=16) Tryz.func90 rfl Tryz.ntmps90 rfl ?_
 have hs:=Own.start w
 refine Qag (Qab (Qaa (Qa4 (V:=.agg (oc o).toArray) (cs:=oc o) rfl rfl hs fun b1 w2 hs=>(Qaa (Qad (V:=.bool false) rfl (Qae (Qag (Qbw [some 3,some 4,some 5,some 6,some 7,some 8,some 9,some 10,some 11,some 12,some 13,some 14,some 15,some 2] [] [0,1,3,7,15,31,63,127,255,511,1023,2047,4095,8191] [pv (Pq b1 (0+2)),pv (.int .u8 o.kind),pv (.bool (decide (o.kind=1))),pv (.bool (decide (o.kind=1))),pg ((decide (o.kind=1)) == false) (Pq b1 (0+2)),pg ((decide (o.kind=1)) == false) (.int .u8 o.kind),pg ((decide (o.kind=1)) == false) (.bool (decide (o.kind=2))),pv (.bool ((decide (o.kind=1))||(decide (o.kind=2)))),pv (.bool ((decide (o.kind=1))||(decide (o.kind=2)))),pg (((decide (o.kind=1))||(decide (o.kind=2))) == false) (Pq b1 (0+2)),pg (((decide (o.kind=1))||(decide (o.kind=2))) == false) (.int .u8 o.kind),pg (((decide (o.kind=1))||(decide (o.kind=2))) == false) (.bool (decide (o.kind=4))),pv (.bool (((decide (o.kind=1))||(decide (o.kind=2)))||(decide (o.kind=4)))),pv (.bool (((decide (o.kind=1))||(decide (o.kind=2)))||(decide (o.kind=4))))] (fun _ _=>_) [13] (by kernel_rfl) hs ⟨?_,?_,?_,?_,?_,?_,?_,?_,?_,?_,?_,?_,?_,?_,trivial⟩ ?_))))))))
 ·exact oa [] fun D J w hs=>Qaf Qcg rfl (Zz hs)
 ·exact oa [0] fun D J w hs=>QaQ (V:=.int .u8 o.kind) Qdw hs 0 rfl rfl rfl (Zz hs)
 ·exact oa [1] fun D J w hs=>QaZ rfl rfl (Zz hs)
 ·exact oa [2] fun D J w hs=>Qac (V:=.bool (decide (o.kind=1))) rfl (Zz hs)
 ·exact og [3] fun D J w hG hs=>Qaf Qcg rfl (Zz hs)
 ·exact oy [3,4] [4] fun D J w hG hs=>QaQ (V:=.int .u8 o.kind) Qdw hs 0 rfl rfl rfl (Zz hs)
 ·exact oy [3,5] [5] fun D J w hG hs=>QaZ rfl rfl (Zz hs)
 ·exact oa [3,6] fun D J w hs=>Qcs (h':=decide (o.kind=2)) rfl rfl rfl (Zz hs)
 ·exact oa [7] fun D J w hs=>Qac (V:=.bool ((decide (o.kind=1))||(decide (o.kind=2)))) rfl (Zz hs)
 ·exact og [8] fun D J w hG hs=>Qaf Qcg rfl (Zz hs)
 ·exact oy [8,9] [9] fun D J w hG hs=>QaQ (V:=.int .u8 o.kind) Qdw hs 0 rfl rfl rfl (Zz hs)
 ·exact oy [8,10] [10] fun D J w hG hs=>QaZ rfl rfl (Zz hs)
 ·exact oa [8,11] fun D J w hs=>Qcs (h':=decide (o.kind=4)) rfl rfl rfl (Zz hs)
 ·exact oa [12] fun D J w hs=>Qad (V:=.bool (((decide (o.kind=1))||(decide (o.kind=2)))||(decide (o.kind=4)))) rfl (Zz hs)
 rintro J1 w3 J2 hJ hs
 replace hJ:J2=upd (mix (sq 3 13++[2]) J1 _) 2 (.bool (((decide (o.kind=1))||(decide (o.kind=2)))||(decide (o.kind=4)))):=hJ
 subst hJ
 refine Qaw ?_
 refine ⟨_,Qaq (V:=.bool (((decide (o.kind=1))||(decide (o.kind=2)))||(decide (o.kind=4)))) Tryz.results90 rfl,(Zr hs ?_)⟩
 rfl
theorem Qih (w:World) (o:Opn) (ho:QbM o.ctx):Calls Tryz.prog 41 #[.agg (oc o).toArray] w (fun e w'=>e = .returned (.int .u64 (QbH o))/\Own w no w' []):=by
 refine Qai (n:=7) Tryz.func41 rfl Tryz.ntmps41 rfl ?_
 have hs:=Own.start w
 refine Qag (Qab (Qaa (Qa4 (V:=.agg (oc o).toArray) (cs:=oc o) rfl rfl hs fun b1 w2 hs=>(Qaa (Qad (V:=.int .u64 0) rfl (Qae (Qag ?_)))))))
 have hb:=Ql2 ho
 refine Qab (Qaa (Qaf QcM rfl (Qaa (QbY (vs:=vc o.ctx) Qbk hs 0 rfl rfl rfl rfl (Qaa (Qat (vs:=[.agg (vc o.ctx).toArray]) (V:=.int .u64 (vsum o.ctx)) QuQ rfl rfl ?hc hs fun w3 hs=>?_))))))
 case hc=>exact (Qra _ o.ctx (by first|assumption|exact QcD))
 refine Qaa (QaF (a:=vsum o.ctx) (b:=1) (c:=(vsum o.ctx)+1) rfl rfl (QdO (by omega) (by omega)) (Qaa (Qad (V:=.int .u64 ((vsum o.ctx)+1)) rfl (Qae (Qaw ?_)))))
 refine ⟨_,Qaq (V:=.int .u64 ((vsum o.ctx)+1)) Tryz.results41 rfl,(Zr hs ?_)⟩
 rfl
theorem QjT (w:World) (o e:Opn) (he:Qc9 e.dot):Calls Tryz.prog 46 #[.agg (oc o).toArray,.agg (oc e).toArray] w (fun r w'=>r = .returned (.bool (QaE o e))/\Own w no w' []):=by
 refine Qai (n:=40) Tryz.func46 rfl Tryz.ntmps46 rfl ?_
 have hs:=Own.start w
 refine Qag (Qab (Qaa (Qa4 (V:=.agg (oc o).toArray) (cs:=oc o) rfl rfl hs fun b1 w2 hs=>(Qaa (Qa4 (V:=.agg (oc e).toArray) (cs:=oc e) rfl rfl hs fun b3 w4 hs=>(Qaa (Qad (V:=.bool false) rfl (Qae (Qag (Qag (Qbw [some 5,some 6,some 7,some 8,some 9,some 10,some 11,some 12,some 13,some 14,some 15,some 16,some 17,some 18,some 19,some 20,some 21,some 22] [] [0,1,3,7,15,31,15,79,255,511,1023,2047,4095,2047,10239,32767,65535,131071] [pv (.agg (oc e).toArray),pv (.bool (QbA e)),pv (.bool (!(QbA e))),pv (.bool (!(QbA e))),pg ((!(QbA e)) == false) (Pq b1 (0+3)),pg ((!(QbA e)) == false) (I7 o.cart),pg ((!(QbA e)) == false) (Pq b3 (0+3)),pg ((!(QbA e)) == false) (I7 e.cart),pg ((!(QbA e)) == false) (.bool (!decide (o.cart=e.cart))),pv (.bool ((!(QbA e))||(!decide (o.cart=e.cart)))),pv (.bool ((!(QbA e))||(!decide (o.cart=e.cart)))),pg (((!(QbA e))||(!decide (o.cart=e.cart))) == false) (Pq b1 (0+7)),pg (((!(QbA e))||(!decide (o.cart=e.cart))) == false) (.agg (vc o.ctx).toArray),pg (((!(QbA e))||(!decide (o.cart=e.cart))) == false) (Pq b3 (0+0)),pg (((!(QbA e))||(!decide (o.cart=e.cart))) == false) (.agg (dc e.dot).toArray),pg (((!(QbA e))||(!decide (o.cart=e.cart))) == false) (.bool (Qbv o.ctx e.dot)),pg (((!(QbA e))||(!decide (o.cart=e.cart))) == false) (.bool (!(Qbv o.ctx e.dot))),pv (.bool (((!(QbA e))||(!decide (o.cart=e.cart)))||(!(Qbv o.ctx e.dot))))] (fun _ _=>_) [17] (by kernel_rfl) hs ⟨?_,?_,?_,?_,?_,?_,?_,?_,?_,?_,?_,?_,?_,?_,?_,?_,?_,?_,trivial⟩ ?_)))))))))))
 ·exact oa [] fun D J w hs=>QaL (cs:=oc e) QbB hs 1 rfl rfl rfl (Zz hs)
 ·exact oa [0] fun D J w hs=>Qat (vs:=[.agg (oc e).toArray]) (V:=.bool (QbA e)) QvW rfl rfl (QpK _ e) hs fun _ hs=>Zz hs
 ·exact oa [1] fun D J w hs=>Qbz rfl (Zz hs)
 ·exact oa [2] fun D J w hs=>Qac (V:=.bool (!(QbA e))) rfl (Zz hs)
 ·exact og [3] fun D J w hG hs=>Qaf QeC rfl (Zz hs)
 ·exact oy [3,4] [4] fun D J w hG hs=>QaQ (V:=.int .u16 o.cart) Qar hs 0 rfl rfl rfl (Zz hs)
 ·exact og [3] fun D J w hG hs=>Qaf QeC rfl (Zz hs)
 ·exact oy [3,6] [6] fun D J w hG hs=>QaQ (V:=.int .u16 e.cart) Qar hs 1 rfl rfl rfl (Zz hs)
 ·exact oy [3,5,7] [5,7] fun D J w hG hs=>Qcv rfl rfl (Zz hs)
 ·exact oa [3,8] fun D J w hs=>Qcs (h':=!decide (o.cart=e.cart)) rfl rfl rfl (Zz hs)
 ·exact oa [9] fun D J w hs=>Qac (V:=.bool ((!(QbA e))||(!decide (o.cart=e.cart)))) rfl (Zz hs)
 ·exact og [10] fun D J w hG hs=>Qaf QcM rfl (Zz hs)
 ·exact oy [10,11] [11] fun D J w hG hs=>QbY (vs:=vc o.ctx) Qbk hs 0 rfl rfl rfl rfl (Zz hs)
 ·exact og [10] fun D J w hG hs=>Qaf Qbp rfl (Zz hs)
 ·exact oy [10,13] [13] fun D J w hG hs=>QbY (vs:=dc e.dot) QcL hs 1 rfl rfl rfl rfl (Zz hs)
 ·exact oy [10,12,14] [12,14] fun D J w hG hs=>Qat (vs:=[.agg (vc o.ctx).toArray,.agg (dc e.dot).toArray]) (V:=.bool (Qbv o.ctx e.dot)) QlF rfl rfl (QgA _ o.ctx e.dot (by first|assumption|exact QcP (by omega) (by omega) (by omega) (by omega))) hs fun _ hs=>Zz hs
 ·exact oy [10,15] [15] fun D J w hG hs=>Qbz rfl (Zz hs)
 ·exact oa [10,16] fun D J w hs=>Qcs (h':=!(Qbv o.ctx e.dot)) rfl rfl rfl (Zz hs)
 rintro J1 w7 J2 hJ hs
 replace hJ:J2=upd (mix (sq 5 18) J1 _) 22 (.bool (((!(QbA e))||(!decide (o.cart=e.cart)))||(!(Qbv o.ctx e.dot)))):=hJ
 subst hJ
 refine Qam (t:=((!(QbA e))||(!decide (o.cart=e.cart)))||(!(Qbv o.ctx e.dot))) rfl (fun c8=>?_) (fun c8=>?_)
 ·
  refine Qag (Qab (Qaa (Qad (V:=.bool false) rfl (Qae (Qaw ?_)))))
  refine ⟨_,Qaq (V:=.bool false) Tryz.results46 rfl,(Zr hs ?_)⟩
  exact congrArg Value.bool (QrA c8).symm
 have c8r:=QgD c8
 replace c8:=QgK c8
 have c8rr:=QgD c8
 replace c8:=QgK c8
 replace c8:=Qbu c8
 replace c8rr:=Qbu c8rr
 replace c8rr:=QQ1 c8rr
 replace c8r:=Qbu c8r
 refine Qao (Qag (Qag (Qab (Qaa (Qaf Qcg rfl (Qaa (QaQ (V:=.int .u8 o.kind) Qdw hs 0 rfl rfl rfl (Qae (Qan (Qag (Qab (Qaa (QaZ rfl rfl (Qaa (Qad (V:=.bool (decide (o.kind=5))) rfl (Qae (Qam (t:=decide (o.kind=5)) rfl (fun c9=>?_) (fun c9=>?_))))))))))))))))))
 ·
  replace c9:=QQ1 c9
  refine Qag (Qab (Qaa (Qad (V:=.bool true) rfl (Qae (Qaw ?_)))))
  refine ⟨_,Qaq (V:=.bool true) Tryz.results46 rfl,(Zr hs ?_)⟩
  rw [QhM c8 c8rr c8r]
  refine congrArg Value.bool ?_
  simp_all
 replace c9:=QQ2 c9
 refine Qag (Qag (Qab (Qaa (QaZ rfl rfl (Qaa (Qad (V:=.bool (decide (o.kind=3))) rfl (Qae (Qam (t:=decide (o.kind=3)) rfl (fun c10=>?_) (fun c10=>?_)))))))))
 ·
  replace c10:=QQ1 c10
  refine Qao (QcN (congrArg Value.bool (QQ3 c10)) ?_)
  refine Qag (Qbw [some 30,some 31,some 32,some 33,some 34,some 35,some 36,some 37,some 38,some 39,some 4] [] [0,1,3,7,15,31,15,79,255,511,1023] [pv (Pq b3 (0+2)),pv (.int .u8 e.kind),pv (.bool (!decide (e.kind=4))),pv (.bool (!decide (e.kind=4))),pg ((!decide (e.kind=4)) == true) (Pq b1 (0+4)),pg ((!decide (e.kind=4)) == true) (I7 o.item),pg ((!decide (e.kind=4)) == true) (Pq b3 (0+4)),pg ((!decide (e.kind=4)) == true) (I7 e.item),pg ((!decide (e.kind=4)) == true) (.bool (decide (o.item=e.item))),pv (.bool ((!decide (e.kind=4))&&(decide (o.item=e.item)))),pv (.bool ((!decide (e.kind=4))&&(decide (o.item=e.item))))] (fun _ _=>_) [10] (by kernel_rfl) hs ⟨?_,?_,?_,?_,?_,?_,?_,?_,?_,?_,?_,trivial⟩ ?_)
  ·exact oa [] fun D J w hs=>Qaf Qcg rfl (Zz hs)
  ·exact oa [0] fun D J w hs=>QaQ (V:=.int .u8 e.kind) Qdw hs 1 rfl rfl rfl (Zz hs)
  ·exact oa [1] fun D J w hs=>Qcv rfl rfl (Zz hs)
  ·exact oa [2] fun D J w hs=>Qac (V:=.bool (!decide (e.kind=4))) rfl (Zz hs)
  ·exact og [3] fun D J w hG hs=>Qaf Qdr rfl (Zz hs)
  ·exact oy [3,4] [4] fun D J w hG hs=>QaQ (V:=.int .u16 o.item) Qar hs 0 rfl rfl rfl (Zz hs)
  ·exact og [3] fun D J w hG hs=>Qaf Qdr rfl (Zz hs)
  ·exact oy [3,6] [6] fun D J w hG hs=>QaQ (V:=.int .u16 e.item) Qar hs 1 rfl rfl rfl (Zz hs)
  ·exact oy [3,5,7] [5,7] fun D J w hG hs=>QaZ rfl rfl (Zz hs)
  ·exact oa [3,8] fun D J w hs=>Qbn (h':=decide (o.item=e.item)) rfl rfl rfl (Zz hs)
  ·exact oa [9] fun D J w hs=>Qad (V:=.bool ((!decide (e.kind=4))&&(decide (o.item=e.item)))) rfl (Zz hs)
  rintro J1 w11 J2 hJ hs
  replace hJ:J2=upd (mix (sq 30 10++[4]) J1 _) 4 (.bool ((!decide (e.kind=4))&&(decide (o.item=e.item)))):=hJ
  subst hJ
  refine Qaw ?_
  refine ⟨_,Qaq (V:=.bool ((!decide (e.kind=4))&&(decide (o.item=e.item)))) Tryz.results46 rfl,(Zr hs ?_)⟩
  rw [QhM c8 c8rr c8r]
  refine congrArg Value.bool ?_
  simp_all
 replace c10:=QQ2 c10
 refine Qab (Qaa (QaZ rfl rfl (Qaa (Qad (V:=.bool (decide (o.kind=2))) rfl (Qae (Qam (t:=decide (o.kind=2)) rfl (fun c12=>?_) (fun c12=>?_)))))))
 ·
  replace c12:=QQ1 c12
  refine Qag (Qbw [some 30,some 31,some 32,some 33,some 34,some 35,some 36,some 37,some 38,some 39,some 4] [] [0,1,3,7,15,31,15,79,255,511,1023] [pv (Pq b3 (0+2)),pv (.int .u8 e.kind),pv (.bool (!decide (e.kind=4))),pv (.bool (!decide (e.kind=4))),pg ((!decide (e.kind=4)) == true) (Pq b1 (0+4)),pg ((!decide (e.kind=4)) == true) (I7 o.item),pg ((!decide (e.kind=4)) == true) (Pq b3 (0+4)),pg ((!decide (e.kind=4)) == true) (I7 e.item),pg ((!decide (e.kind=4)) == true) (.bool (decide (o.item=e.item))),pv (.bool ((!decide (e.kind=4))&&(decide (o.item=e.item)))),pv (.bool ((!decide (e.kind=4))&&(decide (o.item=e.item))))] (fun _ _=>_) [10] (by kernel_rfl) hs ⟨?_,?_,?_,?_,?_,?_,?_,?_,?_,?_,?_,trivial⟩ ?_)
  ·exact oa [] fun D J w hs=>Qaf Qcg rfl (Zz hs)
  ·exact oa [0] fun D J w hs=>QaQ (V:=.int .u8 e.kind) Qdw hs 1 rfl rfl rfl (Zz hs)
  ·exact oa [1] fun D J w hs=>Qcv rfl rfl (Zz hs)
  ·exact oa [2] fun D J w hs=>Qac (V:=.bool (!decide (e.kind=4))) rfl (Zz hs)
  ·exact og [3] fun D J w hG hs=>Qaf Qdr rfl (Zz hs)
  ·exact oy [3,4] [4] fun D J w hG hs=>QaQ (V:=.int .u16 o.item) Qar hs 0 rfl rfl rfl (Zz hs)
  ·exact og [3] fun D J w hG hs=>Qaf Qdr rfl (Zz hs)
  ·exact oy [3,6] [6] fun D J w hG hs=>QaQ (V:=.int .u16 e.item) Qar hs 1 rfl rfl rfl (Zz hs)
  ·exact oy [3,5,7] [5,7] fun D J w hG hs=>QaZ rfl rfl (Zz hs)
  ·exact oa [3,8] fun D J w hs=>Qbn (h':=decide (o.item=e.item)) rfl rfl rfl (Zz hs)
  ·exact oa [9] fun D J w hs=>Qad (V:=.bool ((!decide (e.kind=4))&&(decide (o.item=e.item)))) rfl (Zz hs)
  rintro J1 w13 J2 hJ hs
  replace hJ:J2=upd (mix (sq 30 10++[4]) J1 _) 4 (.bool ((!decide (e.kind=4))&&(decide (o.item=e.item)))):=hJ
  subst hJ
  refine Qaw ?_
  refine ⟨_,Qaq (V:=.bool ((!decide (e.kind=4))&&(decide (o.item=e.item)))) Tryz.results46 rfl,(Zr hs ?_)⟩
  rw [QhM c8 c8rr c8r]
  refine congrArg Value.bool ?_
  simp_all
 replace c12:=QQ2 c12
 refine Qao (Qag (Qab (Qaa (Qad (V:=.bool false) rfl (Qae (Qaw ?_))))))
 refine ⟨_,Qaq (V:=.bool false) Tryz.results46 rfl,(Zr hs ?_)⟩
 rw [QhM c8 c8rr c8r]
 refine congrArg Value.bool ?_
 simp_all
theorem QoE (w:World) (o:Opn) (ho:Qcc o):Calls Tryz.prog 151 #[.agg (oc o).toArray] w (fun e w'=>e = .returned (.bool (Qb7 o))/\Own w no w' []):=by
 refine Qai (n:=28) Tryz.func151 rfl Tryz.ntmps151 rfl ?_
 have hs:=Own.start w
 refine Qag (Qab (Qaa (Qa4 (V:=.agg (oc o).toArray) (cs:=oc o) rfl rfl hs fun b1 w2 hs=>(Qaa (Qad (V:=.bool false) rfl (Qae (Qag (Qag (Qab (Qaa (Qaf Qcg rfl (Qaa (QaQ (V:=.int .u8 o.kind) Qdw hs 0 rfl rfl rfl (Qae (Qan (Qag (Qab (Qaa (QaZ rfl rfl (Qaa (Qad (V:=.bool (decide (o.kind=1))) rfl (Qae (Qam (t:=decide (o.kind=1)) rfl (fun c3=>?_) (fun c3=>?_))))))))))))))))))))))))
 ·
  replace c3:=QQ1 c3
  refine Qag (Qab (Qaa (Qaf Qdp rfl (Qaa (QaQ (V:=I7 o.qty) Qar hs 0 rfl rfl rfl (Qaa (Qb2 rfl rfl (Qaa (Qad (V:=.bool (decide (0<o.qty))) rfl (Qae (Qaw ?_)))))))))))
  refine ⟨_,Qaq (V:=.bool (decide (0<o.qty))) Tryz.results151 rfl,(Zr hs (congrArg Value.bool ?_))⟩
  unfold Qb7
  have ⟨_,_,_,_,⟨hq1,hq2⟩,_,_⟩:=ho
  simp_all
  try omega
 replace c3:=QQ2 c3
 refine Qag (Qab (Qaa (QaZ rfl rfl (Qaa (Qad (V:=.bool (decide (o.kind=2))) rfl (Qae (Qam (t:=decide (o.kind=2)) rfl (fun c4=>?_) (fun c4=>?_))))))))
 ·
  replace c4:=QQ1 c4
  refine Qag (Qab (Qaa (Qad (V:=.bool true) rfl (Qae (Qaw ?_)))))
  refine ⟨_,Qaq (V:=.bool true) Tryz.results151 rfl,(Zr hs (congrArg Value.bool ?_))⟩
  unfold Qb7
  have ⟨_,_,_,_,⟨hq1,hq2⟩,_,_⟩:=ho
  simp_all
  try omega
 replace c4:=QQ2 c4
 refine Qag (Qab (Qaa (QaZ rfl rfl (Qaa (Qad (V:=.bool (decide (o.kind=3))) rfl (Qae (Qam (t:=decide (o.kind=3)) rfl (fun c5=>?_) (fun c5=>?_))))))))
 ·
  replace c5:=QQ1 c5
  refine Qag (Qab (Qaa (Qaf Qdp rfl (Qaa (QaQ (V:=I7 o.qty) Qar hs 0 rfl rfl rfl (Qaa (QaZ rfl rfl (Qaa (Qad (V:=.bool (decide (o.qty=0))) rfl (Qae (Qaw ?_)))))))))))
  refine ⟨_,Qaq (V:=.bool (decide (o.qty=0))) Tryz.results151 rfl,(Zr hs (congrArg Value.bool ?_))⟩
  unfold Qb7
  have ⟨_,_,_,_,⟨hq1,hq2⟩,_,_⟩:=ho
  simp_all
  try omega
 replace c5:=QQ2 c5
 refine Qag (Qag (Qab (Qaa (QaZ rfl rfl (Qaa (Qad (V:=.bool (decide (o.kind=4))) rfl (Qae (Qam (t:=decide (o.kind=4)) rfl (fun c6=>?_) (fun c6=>?_)))))))))
 ·
  replace c6:=QQ1 c6
  refine Qao (QcN (congrArg Value.bool (QQ3 c6)) ?_)
  refine Qag (Qbw [some 20,some 21,some 22,some 23,some 24,some 25,some 26,some 27,some 2] [] [0,1,3,7,15,31,63,127,255] [pv (Pq b1 (0+4)),pv (I7 o.item),pv (.bool (decide (o.item=0))),pv (.bool (decide (o.item=0))),pg ((decide (o.item=0)) == true) (Pq b1 (0+5)),pg ((decide (o.item=0)) == true) (I7 o.qty),pg ((decide (o.item=0)) == true) (.bool (decide (o.qty=0))),pv (.bool ((decide (o.item=0))&&(decide (o.qty=0)))),pv (.bool ((decide (o.item=0))&&(decide (o.qty=0))))] (fun _ _=>_) [8] (by kernel_rfl) hs ⟨?_,?_,?_,?_,?_,?_,?_,?_,?_,trivial⟩ ?_)
  ·exact oa [] fun D J w hs=>Qaf Qdr rfl (Zz hs)
  ·exact oa [0] fun D J w hs=>QaQ (V:=.int .u16 o.item) Qar hs 0 rfl rfl rfl (Zz hs)
  ·exact oa [1] fun D J w hs=>QaZ rfl rfl (Zz hs)
  ·exact oa [2] fun D J w hs=>Qac (V:=.bool (decide (o.item=0))) rfl (Zz hs)
  ·exact og [3] fun D J w hG hs=>Qaf Qdp rfl (Zz hs)
  ·exact oy [3,4] [4] fun D J w hG hs=>QaQ (V:=.int .u16 o.qty) Qar hs 0 rfl rfl rfl (Zz hs)
  ·exact oy [3,5] [5] fun D J w hG hs=>QaZ rfl rfl (Zz hs)
  ·exact oa [3,6] fun D J w hs=>Qbn (h':=decide (o.qty=0)) rfl rfl rfl (Zz hs)
  ·exact oa [7] fun D J w hs=>Qad (V:=.bool ((decide (o.item=0))&&(decide (o.qty=0)))) rfl (Zz hs)
  rintro J1 w7 J2 hJ hs
  replace hJ:J2=upd (mix (sq 20 8++[2]) J1 _) 2 (.bool ((decide (o.item=0))&&(decide (o.qty=0)))):=hJ
  subst hJ
  refine Qaw ?_
  refine ⟨_,Qaq (V:=.bool ((decide (o.item=0))&&(decide (o.qty=0)))) Tryz.results151 rfl,(Zr hs (congrArg Value.bool ?_))⟩
  unfold Qb7
  have ⟨_,_,_,_,⟨hq1,hq2⟩,_,_⟩:=ho
  simp_all
  try omega
 replace c6:=QQ2 c6
 refine Qab (Qaa (QaZ rfl rfl (Qaa (Qad (V:=.bool (decide (o.kind=5))) rfl (Qae (Qam (t:=decide (o.kind=5)) rfl (fun c8=>?_) (fun c8=>?_)))))))
 ·
  replace c8:=QQ1 c8
  refine Qag (Qbw [some 20,some 21,some 22,some 23,some 24,some 25,some 26,some 27,some 2] [] [0,1,3,7,15,31,63,127,255] [pv (Pq b1 (0+4)),pv (I7 o.item),pv (.bool (decide (o.item=0))),pv (.bool (decide (o.item=0))),pg ((decide (o.item=0)) == true) (Pq b1 (0+5)),pg ((decide (o.item=0)) == true) (I7 o.qty),pg ((decide (o.item=0)) == true) (.bool (decide (o.qty=0))),pv (.bool ((decide (o.item=0))&&(decide (o.qty=0)))),pv (.bool ((decide (o.item=0))&&(decide (o.qty=0))))] (fun _ _=>_) [8] (by kernel_rfl) hs ⟨?_,?_,?_,?_,?_,?_,?_,?_,?_,trivial⟩ ?_)
  ·exact oa [] fun D J w hs=>Qaf Qdr rfl (Zz hs)
  ·exact oa [0] fun D J w hs=>QaQ (V:=.int .u16 o.item) Qar hs 0 rfl rfl rfl (Zz hs)
  ·exact oa [1] fun D J w hs=>QaZ rfl rfl (Zz hs)
  ·exact oa [2] fun D J w hs=>Qac (V:=.bool (decide (o.item=0))) rfl (Zz hs)
  ·exact og [3] fun D J w hG hs=>Qaf Qdp rfl (Zz hs)
  ·exact oy [3,4] [4] fun D J w hG hs=>QaQ (V:=.int .u16 o.qty) Qar hs 0 rfl rfl rfl (Zz hs)
  ·exact oy [3,5] [5] fun D J w hG hs=>QaZ rfl rfl (Zz hs)
  ·exact oa [3,6] fun D J w hs=>Qbn (h':=decide (o.qty=0)) rfl rfl rfl (Zz hs)
  ·exact oa [7] fun D J w hs=>Qad (V:=.bool ((decide (o.item=0))&&(decide (o.qty=0)))) rfl (Zz hs)
  rintro J1 w9 J2 hJ hs
  replace hJ:J2=upd (mix (sq 20 8++[2]) J1 _) 2 (.bool ((decide (o.item=0))&&(decide (o.qty=0)))):=hJ
  subst hJ
  refine Qaw ?_
  refine ⟨_,Qaq (V:=.bool ((decide (o.item=0))&&(decide (o.qty=0)))) Tryz.results151 rfl,(Zr hs (congrArg Value.bool ?_))⟩
  unfold Qb7
  have ⟨_,_,_,_,⟨hq1,hq2⟩,_,_⟩:=ho
  simp_all
  try omega
 replace c8:=QQ2 c8
 refine Qao (Qag (Qab (Qaa (Qad (V:=.bool false) rfl (Qae (Qaw ?_))))))
 refine ⟨_,Qaq (V:=.bool false) Tryz.results151 rfl,(Zr hs (congrArg Value.bool ?_))⟩
 unfold Qb7
 have ⟨_,_,_,_,⟨hq1,hq2⟩,_,_⟩:=ho
 simp_all
 try omega
theorem Qo3 (w:World) (o:Opn) (ho:Qcc o):Calls Tryz.prog 152 #[.agg (oc o).toArray] w (fun e w'=>e = .returned (.bool (Qb7 o))/\Own w no w' []):=by
 refine Qai (n:=28) Tryz.func152 rfl Tryz.ntmps152 rfl ?_
 have hs:=Own.start w
 refine Qag (Qab (Qaa (Qa4 (V:=.agg (oc o).toArray) (cs:=oc o) rfl rfl hs fun b1 w2 hs=>(Qaa (Qad (V:=.bool false) rfl (Qae (Qag (Qag (Qab (Qaa (Qaf Qcg rfl (Qaa (QaQ (V:=.int .u8 o.kind) Qdw hs 0 rfl rfl rfl (Qae (Qan (Qag (Qab (Qaa (QaZ rfl rfl (Qaa (Qad (V:=.bool (decide (o.kind=1))) rfl (Qae (Qam (t:=decide (o.kind=1)) rfl (fun c3=>?_) (fun c3=>?_))))))))))))))))))))))))
 ·
  replace c3:=QQ1 c3
  refine Qag (Qab (Qaa (Qaf Qdp rfl (Qaa (QaQ (V:=I7 o.qty) Qar hs 0 rfl rfl rfl (Qaa (QcZ rfl rfl (Qaa (Qad (V:=.bool (decide (1<=o.qty))) rfl (Qae (Qaw ?_)))))))))))
  refine ⟨_,Qaq (V:=.bool (decide (1<=o.qty))) Tryz.results152 rfl,(Zr hs (congrArg Value.bool ?_))⟩
  unfold Qb7
  have ⟨_,_,_,_,⟨hq1,hq2⟩,_,_⟩:=ho
  simp_all
  try omega
 replace c3:=QQ2 c3
 refine Qag (Qab (Qaa (QaZ rfl rfl (Qaa (Qad (V:=.bool (decide (o.kind=2))) rfl (Qae (Qam (t:=decide (o.kind=2)) rfl (fun c4=>?_) (fun c4=>?_))))))))
 ·
  replace c4:=QQ1 c4
  refine Qag (Qab (Qaa (Qad (V:=.bool true) rfl (Qae (Qaw ?_)))))
  refine ⟨_,Qaq (V:=.bool true) Tryz.results152 rfl,(Zr hs (congrArg Value.bool ?_))⟩
  unfold Qb7
  have ⟨_,_,_,_,⟨hq1,hq2⟩,_,_⟩:=ho
  simp_all
  try omega
 replace c4:=QQ2 c4
 refine Qag (Qab (Qaa (QaZ rfl rfl (Qaa (Qad (V:=.bool (decide (o.kind=3))) rfl (Qae (Qam (t:=decide (o.kind=3)) rfl (fun c5=>?_) (fun c5=>?_))))))))
 ·
  replace c5:=QQ1 c5
  refine Qag (Qab (Qaa (Qaf Qdp rfl (Qaa (QaQ (V:=I7 o.qty) Qar hs 0 rfl rfl rfl (Qaa (QaZ rfl rfl (Qaa (Qad (V:=.bool (decide (o.qty=0))) rfl (Qae (Qaw ?_)))))))))))
  refine ⟨_,Qaq (V:=.bool (decide (o.qty=0))) Tryz.results152 rfl,(Zr hs (congrArg Value.bool ?_))⟩
  unfold Qb7
  have ⟨_,_,_,_,⟨hq1,hq2⟩,_,_⟩:=ho
  simp_all
  try omega
 replace c5:=QQ2 c5
 refine Qag (Qag (Qab (Qaa (QaZ rfl rfl (Qaa (Qad (V:=.bool (decide (o.kind=4))) rfl (Qae (Qam (t:=decide (o.kind=4)) rfl (fun c6=>?_) (fun c6=>?_)))))))))
 ·
  replace c6:=QQ1 c6
  refine Qao (QcN (congrArg Value.bool (QQ3 c6)) ?_)
  refine Qag (Qbw [some 20,some 21,some 22,some 23,some 24,some 25,some 26,some 27,some 2] [] [0,1,3,7,15,31,63,127,255] [pv (Pq b1 (0+4)),pv (I7 o.item),pv (.bool (decide (o.item=0))),pv (.bool (decide (o.item=0))),pg ((decide (o.item=0)) == true) (Pq b1 (0+5)),pg ((decide (o.item=0)) == true) (I7 o.qty),pg ((decide (o.item=0)) == true) (.bool (decide (o.qty=0))),pv (.bool ((decide (o.item=0))&&(decide (o.qty=0)))),pv (.bool ((decide (o.item=0))&&(decide (o.qty=0))))] (fun _ _=>_) [8] (by kernel_rfl) hs ⟨?_,?_,?_,?_,?_,?_,?_,?_,?_,trivial⟩ ?_)
  ·exact oa [] fun D J w hs=>Qaf Qdr rfl (Zz hs)
  ·exact oa [0] fun D J w hs=>QaQ (V:=.int .u16 o.item) Qar hs 0 rfl rfl rfl (Zz hs)
  ·exact oa [1] fun D J w hs=>QaZ rfl rfl (Zz hs)
  ·exact oa [2] fun D J w hs=>Qac (V:=.bool (decide (o.item=0))) rfl (Zz hs)
  ·exact og [3] fun D J w hG hs=>Qaf Qdp rfl (Zz hs)
  ·exact oy [3,4] [4] fun D J w hG hs=>QaQ (V:=.int .u16 o.qty) Qar hs 0 rfl rfl rfl (Zz hs)
  ·exact oy [3,5] [5] fun D J w hG hs=>QaZ rfl rfl (Zz hs)
  ·exact oa [3,6] fun D J w hs=>Qbn (h':=decide (o.qty=0)) rfl rfl rfl (Zz hs)
  ·exact oa [7] fun D J w hs=>Qad (V:=.bool ((decide (o.item=0))&&(decide (o.qty=0)))) rfl (Zz hs)
  rintro J1 w7 J2 hJ hs
  replace hJ:J2=upd (mix (sq 20 8++[2]) J1 _) 2 (.bool ((decide (o.item=0))&&(decide (o.qty=0)))):=hJ
  subst hJ
  refine Qaw ?_
  refine ⟨_,Qaq (V:=.bool ((decide (o.item=0))&&(decide (o.qty=0)))) Tryz.results152 rfl,(Zr hs (congrArg Value.bool ?_))⟩
  unfold Qb7
  have ⟨_,_,_,_,⟨hq1,hq2⟩,_,_⟩:=ho
  simp_all
  try omega
 replace c6:=QQ2 c6
 refine Qab (Qaa (QaZ rfl rfl (Qaa (Qad (V:=.bool (decide (o.kind=5))) rfl (Qae (Qam (t:=decide (o.kind=5)) rfl (fun c8=>?_) (fun c8=>?_)))))))
 ·
  replace c8:=QQ1 c8
  refine Qag (Qbw [some 20,some 21,some 22,some 23,some 24,some 25,some 26,some 27,some 2] [] [0,1,3,7,15,31,63,127,255] [pv (Pq b1 (0+4)),pv (I7 o.item),pv (.bool (decide (o.item=0))),pv (.bool (decide (o.item=0))),pg ((decide (o.item=0)) == true) (Pq b1 (0+5)),pg ((decide (o.item=0)) == true) (I7 o.qty),pg ((decide (o.item=0)) == true) (.bool (decide (o.qty=0))),pv (.bool ((decide (o.item=0))&&(decide (o.qty=0)))),pv (.bool ((decide (o.item=0))&&(decide (o.qty=0))))] (fun _ _=>_) [8] (by kernel_rfl) hs ⟨?_,?_,?_,?_,?_,?_,?_,?_,?_,trivial⟩ ?_)
  ·exact oa [] fun D J w hs=>Qaf Qdr rfl (Zz hs)
  ·exact oa [0] fun D J w hs=>QaQ (V:=.int .u16 o.item) Qar hs 0 rfl rfl rfl (Zz hs)
  ·exact oa [1] fun D J w hs=>QaZ rfl rfl (Zz hs)
  ·exact oa [2] fun D J w hs=>Qac (V:=.bool (decide (o.item=0))) rfl (Zz hs)
  ·exact og [3] fun D J w hG hs=>Qaf Qdp rfl (Zz hs)
  ·exact oy [3,4] [4] fun D J w hG hs=>QaQ (V:=.int .u16 o.qty) Qar hs 0 rfl rfl rfl (Zz hs)
  ·exact oy [3,5] [5] fun D J w hG hs=>QaZ rfl rfl (Zz hs)
  ·exact oa [3,6] fun D J w hs=>Qbn (h':=decide (o.qty=0)) rfl rfl rfl (Zz hs)
  ·exact oa [7] fun D J w hs=>Qad (V:=.bool ((decide (o.item=0))&&(decide (o.qty=0)))) rfl (Zz hs)
  rintro J1 w9 J2 hJ hs
  replace hJ:J2=upd (mix (sq 20 8++[2]) J1 _) 2 (.bool ((decide (o.item=0))&&(decide (o.qty=0)))):=hJ
  subst hJ
  refine Qaw ?_
  refine ⟨_,Qaq (V:=.bool ((decide (o.item=0))&&(decide (o.qty=0)))) Tryz.results152 rfl,(Zr hs (congrArg Value.bool ?_))⟩
  unfold Qb7
  have ⟨_,_,_,_,⟨hq1,hq2⟩,_,_⟩:=ho
  simp_all
  try omega
 replace c8:=QQ2 c8
 refine Qao (Qag (Qab (Qaa (Qad (V:=.bool false) rfl (Qae (Qaw ?_))))))
 refine ⟨_,Qaq (V:=.bool false) Tryz.results152 rfl,(Zr hs (congrArg Value.bool ?_))⟩
 unfold Qb7
 have ⟨_,_,_,_,⟨hq1,hq2⟩,_,_⟩:=ho
 simp_all
 try omega
theorem Qil (w:World) (o:Opn) (n:Int) (hO:Qcc o):Calls Tryz.prog 103 #[.agg (oc o).toArray,.int .i64 n] w (fun e w'=>e = .returned (.bool (Qa8 o n))/\Own w no w' []):=by
 refine Qai (n:=50) Tryz.func103 rfl Tryz.ntmps103 rfl ?_
 have hs:=Own.start w
 have ⟨⟨⟨hr1,hr2⟩,hr3,hr4⟩,_,_,_,⟨hq1,hq2⟩,_,hctx⟩:=hO
 refine Qag (Qab (Qaa (Qa4 (V:=.agg (oc o).toArray) (cs:=oc o) rfl rfl hs fun b1 w2 hs=>(Qaa (Qad (V:=.bool false) rfl (Qae (Qag (Qag (Qbw [some 6,some 7,some 8,some 9,some 10,some 11,some 12,some 13,some 14,some 15,some 16,some 17,some 18,some 19,some 20,some 21,some 22,some 23,some 24,some 25,some 26,some 27,some 28] [] [0,1,0,7,15,31,63,127,255,511,63,2047,4095,8191,16383,32767,65535,131071,262143,524287,1048575,2097151,4194303] [pv (Pq b1 (0+7)),pv (.agg (vc o.ctx).toArray),pv (I6 n),pv (.bool (QaR o.ctx n)),pv (.bool (!(QaR o.ctx n))),pv (.bool (!(QaR o.ctx n))),pg ((!(QaR o.ctx n)) == false) (Pq b1 (0+0)),pg ((!(QaR o.ctx n)) == false) (Pq b1 (0+0+0)),pg ((!(QaR o.ctx n)) == false) (.int .u8 o.dot.rep),pg ((!(QaR o.ctx n)) == false) (I6 o.dot.rep),pg ((!(QaR o.ctx n)) == false) (I6 n),pg ((!(QaR o.ctx n)) == false) (.bool (decide (n<=o.dot.rep))),pv (.bool ((!(QaR o.ctx n))||(decide (n<=o.dot.rep)))),pv (.bool ((!(QaR o.ctx n))||(decide (n<=o.dot.rep)))),pg (((!(QaR o.ctx n))||(decide (n<=o.dot.rep))) == false) (Pq b1 (0+6)),pg (((!(QaR o.ctx n))||(decide (n<=o.dot.rep))) == false) (.int .u32 o.tick),pg (((!(QaR o.ctx n))||(decide (n<=o.dot.rep))) == false) (.bool (decide (1073741824<o.tick))),pv (.bool (((!(QaR o.ctx n))||(decide (n<=o.dot.rep)))||(decide (1073741824<o.tick)))),pv (.bool (((!(QaR o.ctx n))||(decide (n<=o.dot.rep)))||(decide (1073741824<o.tick)))),pg ((((!(QaR o.ctx n))||(decide (n<=o.dot.rep)))||(decide (1073741824<o.tick))) == false) (.agg (oc o).toArray),pg ((((!(QaR o.ctx n))||(decide (n<=o.dot.rep)))||(decide (1073741824<o.tick))) == false) (.bool (Qb7 o)),pg ((((!(QaR o.ctx n))||(decide (n<=o.dot.rep)))||(decide (1073741824<o.tick))) == false) (.bool (!(Qb7 o))),pv (.bool ((((!(QaR o.ctx n))||(decide (n<=o.dot.rep)))||(decide (1073741824<o.tick)))||(!(Qb7 o))))] (fun _ _=>_) [22] (by kernel_rfl) hs ⟨?_,?_,?_,?_,?_,?_,?_,?_,?_,?_,?_,?_,?_,?_,?_,?_,?_,?_,?_,?_,?_,?_,?_,trivial⟩ ?_)))))))))
 ·exact oa [] fun D J w hs=>Qaf QcM rfl (Zz hs)
 ·exact oa [0] fun D J w hs=>QbY (vs:=vc o.ctx) Qbk hs 0 rfl rfl rfl rfl (Zz hs)
 ·exact oa [] fun D J w hs=>Qac (V:=.int .i64 n) rfl (Zz hs)
 ·exact oa [1,2] fun D J w hs=>Qat (vs:=[.agg (vc o.ctx).toArray,.int .i64 n]) (V:=.bool (QaR o.ctx n)) Qry rfl rfl (QfU _ o.ctx n (by first|assumption|exact QcD)) hs fun _ hs=>Zz hs
 ·exact oa [3] fun D J w hs=>Qbz rfl (Zz hs)
 ·exact oa [4] fun D J w hs=>Qac (V:=.bool (!(QaR o.ctx n))) rfl (Zz hs)
 ·exact og [5] fun D J w hG hs=>Qaf Qbp rfl (Zz hs)
 ·exact oy [5,6] [6] fun D J w hG hs=>Qaf QbZ rfl (Zz hs)
 ·exact oy [5,7] [7] fun D J w hG hs=>QaQ (V:=.int .u8 o.dot.rep) Qdw hs 0 rfl rfl rfl (Zz hs)
 ·exact oy [5,8] [8] fun D J w hG hs=>Qcl Qvg QhS rfl (QbE (by omega) (by omega)) (Zz hs)
 ·exact og [5] fun D J w hG hs=>Qac (V:=.int .i64 n) rfl (Zz hs)
 ·exact oy [5,9,10] [9,10] fun D J w hG hs=>QcZ rfl rfl (Zz hs)
 ·exact oa [5,11] fun D J w hs=>Qcs (h':=decide (n<=o.dot.rep)) rfl rfl rfl (Zz hs)
 ·exact oa [12] fun D J w hs=>Qac (V:=.bool ((!(QaR o.ctx n))||(decide (n<=o.dot.rep)))) rfl (Zz hs)
 ·exact og [13] fun D J w hG hs=>Qaf QhP rfl (Zz hs)
 ·exact oy [13,14] [14] fun D J w hG hs=>QaQ (V:=.int .u32 o.tick) QaX hs 0 rfl rfl rfl (Zz hs)
 ·exact oy [13,15] [15] fun D J w hG hs=>Qb2 rfl rfl (Zz hs)
 ·exact oa [13,16] fun D J w hs=>Qcs (h':=decide (1073741824<o.tick)) rfl rfl rfl (Zz hs)
 ·exact oa [17] fun D J w hs=>Qac (V:=.bool (((!(QaR o.ctx n))||(decide (n<=o.dot.rep)))||(decide (1073741824<o.tick)))) rfl (Zz hs)
 ·exact og [18] fun D J w hG hs=>QaL (cs:=oc o) QbB hs 0 rfl rfl rfl (Zz hs)
 ·exact oy [18,19] [19] fun D J w hG hs=>Qat (vs:=[.agg (oc o).toArray]) (V:=.bool (Qb7 o)) QtB rfl rfl (QoE _ o (by assumption)) hs fun _ hs=>Zz hs
 ·exact oy [18,20] [20] fun D J w hG hs=>Qbz rfl (Zz hs)
 ·exact oa [18,21] fun D J w hs=>Qcs (h':=!(Qb7 o)) rfl rfl rfl (Zz hs)
 rintro J1 w5 J2 hJ hs
 replace hJ:J2=upd (mix (sq 6 23) J1 _) 28 (.bool ((((!(QaR o.ctx n))||(decide (n<=o.dot.rep)))||(decide (1073741824<o.tick)))||(!(Qb7 o)))):=hJ
 subst hJ
 refine Qam (t:=(((!(QaR o.ctx n))||(decide (n<=o.dot.rep)))||(decide (1073741824<o.tick)))||(!(Qb7 o))) rfl (fun c6=>?_) (fun c6=>?_)
 ·
  refine Qag (Qab (Qaa (Qad (V:=.bool false) rfl (Qae (Qaw ?_)))))
  refine ⟨_,Qaq (V:=.bool false) Tryz.results103 rfl,(Zr hs ?_)⟩
  exact congrArg Value.bool (QoN c6).symm
 have c6r:=QgD c6
 replace c6:=QgK c6
 have c6rr:=QgD c6
 replace c6:=QgK c6
 have c6rrr:=QgD c6
 replace c6:=QgK c6
 replace c6:=Qbu c6
 replace c6rrr:=QQ2 c6rrr
 replace c6rr:=QQ2 c6rr
 replace c6r:=Qbu c6r
 refine Qao (Qag (Qab (Qaa (Qaf Qbp rfl (Qaa (QbY (vs:=dc o.dot) QcL hs 0 rfl rfl rfl rfl (Qaa (QaK (cs:=dc (⟨0,0⟩:Dot)) Qu7 rfl hs fun b7 w8 hs=>(Qaa (Qcx (V:=.agg (dc o.dot).toArray) (vs:=dc o.dot) (cs':=dc o.dot) QcL.1 hs 1 rfl rfl rfl rfl rfl (QQ8 rfl) (Qt7 _) (Qaz rfl) fun w9 hs=>(Qae (Qag ?_))))))))))))
 have hnn:=Qho c6
 refine QaH HM [some 31,some 32,some 33,some 34,some 35,some 36,some 37,some 38,some 39,some 40,some 41,some 42,some 43,some 44,some 45,some 46,some 47,some 48,some 49,some 4] [] [0,1,3,7,15,31,63,127,255,511,1023,511,4095,8191,511,16895,49663,131071,262143,524287] [pv (Pq b7 (0+1)),pv (.int .u32 o.dot.seq),pv (.bool (decide (1<=o.dot.seq))),pv (.bool (decide (1<=o.dot.seq))),pg ((decide (1<=o.dot.seq)) == true) (Pq b7 (0+1)),pg ((decide (1<=o.dot.seq)) == true) (.int .u32 o.dot.seq),pg ((decide (1<=o.dot.seq)) == true) (.bool (decide (o.dot.seq<=1048576))),pv (.bool ((decide (1<=o.dot.seq))&&(decide (o.dot.seq<=1048576)))),pv (.bool ((decide (1<=o.dot.seq))&&(decide (o.dot.seq<=1048576)))),pg (((decide (1<=o.dot.seq))&&(decide (o.dot.seq<=1048576))) == true) (Pq b7 (0+0)),pg (((decide (1<=o.dot.seq))&&(decide (o.dot.seq<=1048576))) == true) (.int .u8 o.dot.rep),pg (((decide (1<=o.dot.seq))&&(decide (o.dot.seq<=1048576))) == true) (Pq b1 (0+7)),pg (((decide (1<=o.dot.seq))&&(decide (o.dot.seq<=1048576))) == true) (.pointer (some ⟨b1,0+7+o.dot.rep.toNat,none⟩)),pg (((decide (1<=o.dot.seq))&&(decide (o.dot.seq<=1048576))) == true) (.int .u32 (vat o.ctx o.dot.rep.toNat)),pg (((decide (1<=o.dot.seq))&&(decide (o.dot.seq<=1048576))) == true) (Pq b7 (0+1)),pg (((decide (1<=o.dot.seq))&&(decide (o.dot.seq<=1048576))) == true) (.int .u32 o.dot.seq),pg (((decide (1<=o.dot.seq))&&(decide (o.dot.seq<=1048576))) == true) (.int .u32 (o.dot.seq-1)),pg (((decide (1<=o.dot.seq))&&(decide (o.dot.seq<=1048576))) == true) (.bool (decide (vat o.ctx o.dot.rep.toNat=o.dot.seq-1))),pv (.bool (((decide (1<=o.dot.seq))&&(decide (o.dot.seq<=1048576)))&&(decide (vat o.ctx o.dot.rep.toNat=o.dot.seq-1)))),pv (.bool (((decide (1<=o.dot.seq))&&(decide (o.dot.seq<=1048576)))&&(decide (vat o.ctx o.dot.rep.toNat=o.dot.seq-1))))] (fun _ _=>_) [19] (by kernel_rfl) hs ⟨?_,?_,?_,?_,?_,?_,?_,?_,?_,?_,?_,?_,?_,?_,?_,?_,?_,?_,?_,?_,trivial⟩ ?_
 ·exact oa [] fun D J w hs=>Qaf Qb0 rfl (Zz hs)
 ·exact oa [0] fun D J w hs=>QaQ (V:=.int .u32 o.dot.seq) QaX hs 1 rfl rfl rfl (Zz hs)
 ·exact oa [1] fun D J w hs=>QcZ rfl rfl (Zz hs)
 ·exact oa [2] fun D J w hs=>Qac (V:=.bool (decide (1<=o.dot.seq))) rfl (Zz hs)
 ·exact og [3] fun D J w hG hs=>Qaf Qb0 rfl (Zz hs)
 ·exact oy [3,4] [4] fun D J w hG hs=>QaQ (V:=.int .u32 o.dot.seq) QaX hs 1 rfl rfl rfl (Zz hs)
 ·exact oy [3,5] [5] fun D J w hG hs=>QdZ rfl rfl (Zz hs)
 ·exact oa [3,6] fun D J w hs=>Qbn (h':=decide (o.dot.seq<=1048576)) rfl rfl rfl (Zz hs)
 ·exact oa [7] fun D J w hs=>Qac (V:=.bool ((decide (1<=o.dot.seq))&&(decide (o.dot.seq<=1048576)))) rfl (Zz hs)
 ·refine og [8] fun D J w hG hs=>?_
  have hg9:=Qb3 (eq_of_beq hG)
  have hgd:=QQ1 hg9
  exact Qaf QbZ rfl (Zz hs)
 ·refine oy [8,9] [9] fun D J w hG hs=>?_
  have hg9:=Qb3 (eq_of_beq hG)
  have hgd:=QQ1 hg9
  exact QaQ (V:=.int .u8 o.dot.rep) Qdw hs 1 rfl rfl rfl (Zz hs)
 ·refine og [8] fun D J w hG hs=>?_
  have hg9:=Qb3 (eq_of_beq hG)
  have hgd:=QQ1 hg9
  exact Qaf QcM rfl (Zz hs)
 ·refine oy [8,10,11] [10,11] fun D J w hG hs=>?_
  have hg9:=Qb3 (eq_of_beq hG)
  have hgd:=QQ1 hg9
  exact QbX QdT QaX.1 rfl rfl (by omega) (by omega) (Zz hs)
 ·refine oy [8,12] [12] fun D J w hG hs=>?_
  have hg9:=Qb3 (eq_of_beq hG)
  have hgd:=QQ1 hg9
  exact QaQ (V:=.int .u32 (vat o.ctx o.dot.rep.toNat)) QaX hs 0 rfl rfl (Qp5 (by omega) (by omega)) (Zz hs)
 ·refine og [8] fun D J w hG hs=>?_
  have hg9:=Qb3 (eq_of_beq hG)
  have hgd:=QQ1 hg9
  exact Qaf Qb0 rfl (Zz hs)
 ·refine oy [8,14] [14] fun D J w hG hs=>?_
  have hg9:=Qb3 (eq_of_beq hG)
  have hgd:=QQ1 hg9
  exact QaQ (V:=.int .u32 o.dot.seq) QaX hs 1 rfl rfl rfl (Zz hs)
 ·refine oy [8,15] [15] fun D J w hG hs=>?_
  have hg9:=Qb3 (eq_of_beq hG)
  have hgd:=QQ1 hg9
  exact Qa5 (a:=o.dot.seq) (b:=1) (c:=o.dot.seq-1) rfl rfl (QgN (by omega) (by omega)) (Zz hs)
 ·refine oy [8,13,16] [13,16] fun D J w hG hs=>?_
  have hg9:=Qb3 (eq_of_beq hG)
  have hgd:=QQ1 hg9
  exact QaZ rfl rfl (Zz hs)
 ·exact oa [8,17] fun D J w hs=>Qbn (h':=decide (vat o.ctx o.dot.rep.toNat=o.dot.seq-1)) rfl rfl rfl (Zz hs)
 ·exact oa [18] fun D J w hs=>Qad (V:=.bool (((decide (1<=o.dot.seq))&&(decide (o.dot.seq<=1048576)))&&(decide (vat o.ctx o.dot.rep.toNat=o.dot.seq-1)))) rfl (Zz hs)
 rintro J1 w10 J2 hJ hs
 replace hJ:J2=upd (mix (sq 31 19++[4]) J1 _) 4 (.bool (((decide (1<=o.dot.seq))&&(decide (o.dot.seq<=1048576)))&&(decide (vat o.ctx o.dot.rep.toNat=o.dot.seq-1)))):=hJ
 subst hJ
 refine Qaw ?_
 refine ⟨_,Qaq (V:=.bool (((decide (1<=o.dot.seq))&&(decide (o.dot.seq<=1048576)))&&(decide (vat o.ctx o.dot.rep.toNat=o.dot.seq-1)))) Tryz.results103 rfl,(Zr hs ?_)⟩
 exact congrArg Value.bool (Qou c6 c6rrr c6rr c6r).symm
theorem QkO (w:World) (o:Opn) (n:Int) (hO:Qcc o):Calls Tryz.prog 105 #[.agg (oc o).toArray,.int .i64 n] w (fun e w'=>e = .returned (.bool (Qa8 o n))/\Own w no w' []):=by
 refine Qai (n:=52) Tryz.func105 rfl Tryz.ntmps105 rfl ?_
 have hs:=Own.start w
 have ⟨⟨⟨hr1,hr2⟩,hr3,hr4⟩,_,_,_,⟨hq1,hq2⟩,_,hctx⟩:=hO
 refine Qag (Qab (Qaa (Qa4 (V:=.agg (oc o).toArray) (cs:=oc o) rfl rfl hs fun b1 w2 hs=>(Qaa (Qad (V:=.bool false) rfl (Qae (Qag (Qag (Qbw [some 5,some 6,some 7,some 8,some 9,some 10,some 11,some 12,some 13,some 14,some 15,some 16,some 17,some 18,some 19,some 20,some 21,some 22,some 23,some 24,some 25,some 26,some 27,some 28,some 29,some 30,some 31] [] [0,1,3,7,15,31,63,127,255,511,1023,127,4095,8191,16383,32767,65535,131071,262143,524287,1048575,2097151,4194303,2097151,16777215,33554431,67108863] [pv (I6 n),pv (.bool (decide (n<1))),pv (.bool (decide (n<1))),pg ((decide (n<1)) == false) (I6 n),pg ((decide (n<1)) == false) (.bool (decide (16<n))),pv (.bool ((decide (n<1))||(decide (16<n)))),pv (.bool ((decide (n<1))||(decide (16<n)))),pg (((decide (n<1))||(decide (16<n))) == false) (Pq b1 (0+0)),pg (((decide (n<1))||(decide (16<n))) == false) (Pq b1 (0+0+0)),pg (((decide (n<1))||(decide (16<n))) == false) (.int .u8 o.dot.rep),pg (((decide (n<1))||(decide (16<n))) == false) (I6 o.dot.rep),pg (((decide (n<1))||(decide (16<n))) == false) (I6 n),pg (((decide (n<1))||(decide (16<n))) == false) (.bool (decide (n<=o.dot.rep))),pv (.bool (((decide (n<1))||(decide (16<n)))||(decide (n<=o.dot.rep)))),pv (.bool (((decide (n<1))||(decide (16<n)))||(decide (n<=o.dot.rep)))),pg ((((decide (n<1))||(decide (16<n)))||(decide (n<=o.dot.rep))) == false) (Pq b1 (0+0)),pg ((((decide (n<1))||(decide (16<n)))||(decide (n<=o.dot.rep))) == false) (.agg (dc o.dot).toArray),pg ((((decide (n<1))||(decide (16<n)))||(decide (n<=o.dot.rep))) == false) (.bool (QbJ o.dot)),pg ((((decide (n<1))||(decide (16<n)))||(decide (n<=o.dot.rep))) == false) (.bool (!(QbJ o.dot))),pv (.bool ((((decide (n<1))||(decide (16<n)))||(decide (n<=o.dot.rep)))||(!(QbJ o.dot)))),pv (.bool ((((decide (n<1))||(decide (16<n)))||(decide (n<=o.dot.rep)))||(!(QbJ o.dot)))),pg (((((decide (n<1))||(decide (16<n)))||(decide (n<=o.dot.rep)))||(!(QbJ o.dot))) == false) (Pq b1 (0+7)),pg (((((decide (n<1))||(decide (16<n)))||(decide (n<=o.dot.rep)))||(!(QbJ o.dot))) == false) (.agg (vc o.ctx).toArray),pg (((((decide (n<1))||(decide (16<n)))||(decide (n<=o.dot.rep)))||(!(QbJ o.dot))) == false) (I6 n),pg (((((decide (n<1))||(decide (16<n)))||(decide (n<=o.dot.rep)))||(!(QbJ o.dot))) == false) (.bool (QaR o.ctx n)),pg (((((decide (n<1))||(decide (16<n)))||(decide (n<=o.dot.rep)))||(!(QbJ o.dot))) == false) (.bool (!(QaR o.ctx n))),pv (.bool (((((decide (n<1))||(decide (16<n)))||(decide (n<=o.dot.rep)))||(!(QbJ o.dot)))||(!(QaR o.ctx n))))] (fun _ _=>_) [26] (by kernel_rfl) hs ⟨?_,?_,?_,?_,?_,?_,?_,?_,?_,?_,?_,?_,?_,?_,?_,?_,?_,?_,?_,?_,?_,?_,?_,?_,?_,?_,?_,trivial⟩ ?_)))))))))
 ·exact oa [] fun D J w hs=>Qac (V:=.int .i64 n) rfl (Zz hs)
 ·exact oa [0] fun D J w hs=>Qa2 rfl rfl (Zz hs)
 ·exact oa [1] fun D J w hs=>Qac (V:=.bool (decide (n<1))) rfl (Zz hs)
 ·exact og [2] fun D J w hG hs=>Qac (V:=.int .i64 n) rfl (Zz hs)
 ·exact oy [2,3] [3] fun D J w hG hs=>Qb2 rfl rfl (Zz hs)
 ·exact oa [2,4] fun D J w hs=>Qcs (h':=decide (16<n)) rfl rfl rfl (Zz hs)
 ·exact oa [5] fun D J w hs=>Qac (V:=.bool ((decide (n<1))||(decide (16<n)))) rfl (Zz hs)
 ·exact og [6] fun D J w hG hs=>Qaf Qbp rfl (Zz hs)
 ·exact oy [6,7] [7] fun D J w hG hs=>Qaf QbZ rfl (Zz hs)
 ·exact oy [6,8] [8] fun D J w hG hs=>QaQ (V:=.int .u8 o.dot.rep) Qdw hs 0 rfl rfl rfl (Zz hs)
 ·exact oy [6,9] [9] fun D J w hG hs=>Qcl Qvg QhS rfl (QbE (by omega) (by omega)) (Zz hs)
 ·exact og [6] fun D J w hG hs=>Qac (V:=.int .i64 n) rfl (Zz hs)
 ·exact oy [6,10,11] [10,11] fun D J w hG hs=>QcZ rfl rfl (Zz hs)
 ·exact oa [6,12] fun D J w hs=>Qcs (h':=decide (n<=o.dot.rep)) rfl rfl rfl (Zz hs)
 ·exact oa [13] fun D J w hs=>Qac (V:=.bool (((decide (n<1))||(decide (16<n)))||(decide (n<=o.dot.rep)))) rfl (Zz hs)
 ·exact og [14] fun D J w hG hs=>Qaf Qbp rfl (Zz hs)
 ·exact oy [14,15] [15] fun D J w hG hs=>QbY (vs:=dc o.dot) QcL hs 0 rfl rfl rfl rfl (Zz hs)
 ·exact oy [14,16] [16] fun D J w hG hs=>Qat (vs:=[.agg (dc o.dot).toArray]) (V:=.bool (QbJ o.dot)) Qm5 rfl rfl (Qi1 _ o.dot) hs fun _ hs=>Zz hs
 ·exact oy [14,17] [17] fun D J w hG hs=>Qbz rfl (Zz hs)
 ·exact oa [14,18] fun D J w hs=>Qcs (h':=!(QbJ o.dot)) rfl rfl rfl (Zz hs)
 ·exact oa [19] fun D J w hs=>Qac (V:=.bool ((((decide (n<1))||(decide (16<n)))||(decide (n<=o.dot.rep)))||(!(QbJ o.dot)))) rfl (Zz hs)
 ·exact og [20] fun D J w hG hs=>Qaf QcM rfl (Zz hs)
 ·exact oy [20,21] [21] fun D J w hG hs=>QbY (vs:=vc o.ctx) Qbk hs 0 rfl rfl rfl rfl (Zz hs)
 ·exact og [20] fun D J w hG hs=>Qac (V:=.int .i64 n) rfl (Zz hs)
 ·exact oy [20,22,23] [22,23] fun D J w hG hs=>Qat (vs:=[.agg (vc o.ctx).toArray,.int .i64 n]) (V:=.bool (QaR o.ctx n)) QvH rfl rfl (QlI _ o.ctx n (by first|assumption|exact QcD)) hs fun _ hs=>Zz hs
 ·exact oy [20,24] [24] fun D J w hG hs=>Qbz rfl (Zz hs)
 ·exact oa [20,25] fun D J w hs=>Qcs (h':=!(QaR o.ctx n)) rfl rfl rfl (Zz hs)
 rintro J1 w5 J2 hJ hs
 replace hJ:J2=upd (mix (sq 5 27) J1 _) 31 (.bool (((((decide (n<1))||(decide (16<n)))||(decide (n<=o.dot.rep)))||(!(QbJ o.dot)))||(!(QaR o.ctx n)))):=hJ
 subst hJ
 refine Qam (t:=((((decide (n<1))||(decide (16<n)))||(decide (n<=o.dot.rep)))||(!(QbJ o.dot)))||(!(QaR o.ctx n))) rfl (fun c6=>?_) (fun c6=>?_)
 ·
  refine Qag (Qab (Qaa (Qad (V:=.bool false) rfl (Qae (Qaw ?_)))))
  refine ⟨_,Qaq (V:=.bool false) Tryz.results105 rfl,(Zr hs ?_)⟩
  exact congrArg Value.bool (Qnf c6).symm
 have c6r:=QgD c6
 replace c6:=QgK c6
 have c6rr:=QgD c6
 replace c6:=QgK c6
 have c6rrr:=QgD c6
 replace c6:=QgK c6
 have c6rrrr:=QgD c6
 replace c6:=QgK c6
 replace c6:=QQ2 c6
 replace c6rrrr:=QQ2 c6rrrr
 replace c6rrr:=QQ2 c6rrr
 replace c6rr:=Qbu c6rr
 replace c6r:=Qbu c6r
 refine Qao (Qag ?_)
 have hnn:=Qho c6r
 have hdd:=QaP c6rr
 refine QaH HM [some 32,some 33,some 34,some 35,some 36,some 37,some 38,some 39,some 40,some 41,some 42,some 43,some 44,some 45,some 46,some 47,some 48,some 49,some 50,some 51,some 4] [] [0,1,3,0,15,31,0,64,192,448,1023,2047,4095,8191,16383,32767,65535,131071,262143,524287,1048575] [pv (Pq b1 (0+0)),pv (Pq b1 (0+0+0)),pv (.int .u8 o.dot.rep),pv (Pq b1 (0+7)),pv (.pointer (some ⟨b1,0+7+o.dot.rep.toNat,none⟩)),pv (.int .u32 (vat o.ctx o.dot.rep.toNat)),pv (Pq b1 (0+0)),pv (Pq b1 (0+0+1)),pv (.int .u32 o.dot.seq),pv (.int .u32 (o.dot.seq-1)),pv (.bool (decide (vat o.ctx o.dot.rep.toNat=o.dot.seq-1))),pv (.bool (decide (vat o.ctx o.dot.rep.toNat=o.dot.seq-1))),pg ((decide (vat o.ctx o.dot.rep.toNat=o.dot.seq-1)) == true) (Pq b1 (0+6)),pg ((decide (vat o.ctx o.dot.rep.toNat=o.dot.seq-1)) == true) (.int .u32 o.tick),pg ((decide (vat o.ctx o.dot.rep.toNat=o.dot.seq-1)) == true) (.bool (decide (o.tick<=1073741824))),pv (.bool ((decide (vat o.ctx o.dot.rep.toNat=o.dot.seq-1))&&(decide (o.tick<=1073741824)))),pv (.bool ((decide (vat o.ctx o.dot.rep.toNat=o.dot.seq-1))&&(decide (o.tick<=1073741824)))),pg (((decide (vat o.ctx o.dot.rep.toNat=o.dot.seq-1))&&(decide (o.tick<=1073741824))) == true) (.agg (oc o).toArray),pg (((decide (vat o.ctx o.dot.rep.toNat=o.dot.seq-1))&&(decide (o.tick<=1073741824))) == true) (.bool (Qb7 o)),pv (.bool (((decide (vat o.ctx o.dot.rep.toNat=o.dot.seq-1))&&(decide (o.tick<=1073741824)))&&(Qb7 o))),pv (.bool (((decide (vat o.ctx o.dot.rep.toNat=o.dot.seq-1))&&(decide (o.tick<=1073741824)))&&(Qb7 o)))] (fun _ _=>_) [20] (by kernel_rfl) hs ⟨?_,?_,?_,?_,?_,?_,?_,?_,?_,?_,?_,?_,?_,?_,?_,?_,?_,?_,?_,?_,?_,trivial⟩ ?_
 ·exact oa [] fun D J w hs=>Qaf Qbp rfl (Zz hs)
 ·exact oa [0] fun D J w hs=>Qaf QbZ rfl (Zz hs)
 ·exact oa [1] fun D J w hs=>QaQ (V:=.int .u8 o.dot.rep) Qdw hs 0 rfl rfl rfl (Zz hs)
 ·exact oa [] fun D J w hs=>Qaf QcM rfl (Zz hs)
 ·exact oa [2,3] fun D J w hs=>QbX QdT QaX.1 rfl rfl (by omega) (by omega) (Zz hs)
 ·exact oa [4] fun D J w hs=>QaQ (V:=.int .u32 (vat o.ctx o.dot.rep.toNat)) QaX hs 0 rfl rfl (Qp5 (by omega) (by omega)) (Zz hs)
 ·exact oa [] fun D J w hs=>Qaf Qbp rfl (Zz hs)
 ·exact oa [6] fun D J w hs=>Qaf Qb0 rfl (Zz hs)
 ·exact oa [7] fun D J w hs=>QaQ (V:=.int .u32 o.dot.seq) QaX hs 0 rfl rfl rfl (Zz hs)
 ·exact oa [8] fun D J w hs=>Qa5 (a:=o.dot.seq) (b:=1) (c:=o.dot.seq-1) rfl rfl (QgN (by omega) (by omega)) (Zz hs)
 ·exact oa [5,9] fun D J w hs=>QaZ rfl rfl (Zz hs)
 ·exact oa [10] fun D J w hs=>Qac (V:=.bool (decide (vat o.ctx o.dot.rep.toNat=o.dot.seq-1))) rfl (Zz hs)
 ·exact og [11] fun D J w hG hs=>Qaf QhP rfl (Zz hs)
 ·exact oy [11,12] [12] fun D J w hG hs=>QaQ (V:=.int .u32 o.tick) QaX hs 0 rfl rfl rfl (Zz hs)
 ·exact oy [11,13] [13] fun D J w hG hs=>QdZ rfl rfl (Zz hs)
 ·exact oa [11,14] fun D J w hs=>Qbn (h':=decide (o.tick<=1073741824)) rfl rfl rfl (Zz hs)
 ·exact oa [15] fun D J w hs=>Qac (V:=.bool ((decide (vat o.ctx o.dot.rep.toNat=o.dot.seq-1))&&(decide (o.tick<=1073741824)))) rfl (Zz hs)
 ·exact og [16] fun D J w hG hs=>QaL (cs:=oc o) QbB hs 0 rfl rfl rfl (Zz hs)
 ·exact oy [16,17] [17] fun D J w hG hs=>Qat (vs:=[.agg (oc o).toArray]) (V:=.bool (Qb7 o)) QsL rfl rfl (Qo3 _ o (by assumption)) hs fun _ hs=>Zz hs
 ·exact oa [16,18] fun D J w hs=>Qbn (h':=Qb7 o) rfl rfl rfl (Zz hs)
 ·exact oa [19] fun D J w hs=>Qad (V:=.bool (((decide (vat o.ctx o.dot.rep.toNat=o.dot.seq-1))&&(decide (o.tick<=1073741824)))&&(Qb7 o))) rfl (Zz hs)
 rintro J1 w8 J2 hJ hs
 replace hJ:J2=upd (mix (sq 32 20++[4]) J1 _) 4 (.bool (((decide (vat o.ctx o.dot.rep.toNat=o.dot.seq-1))&&(decide (o.tick<=1073741824)))&&(Qb7 o))):=hJ
 subst hJ
 refine Qaw ?_
 refine ⟨_,Qaq (V:=.bool (((decide (vat o.ctx o.dot.rep.toNat=o.dot.seq-1))&&(decide (o.tick<=1073741824)))&&(Qb7 o))) Tryz.results105 rfl,(Zr hs ?_)⟩
 exact congrArg Value.bool (Ql9 c6rrr c6rr c6r).symm
theorem Qnc (w:World) (known:Vec) (o:Opn) (hO:Qcc o):Calls Tryz.prog 115 #[.agg (vc known).toArray,.agg (oc o).toArray] w (fun e w'=>e = .returned (.int .i64 (QbF known o))/\Own w no w' []):=by
 refine Qai (n:=20) Tryz.func115 rfl Tryz.ntmps115 rfl ?_
 have hs:=Own.start w
 have hdo:=hO.1
 refine Qag (Qab (Qaa (Qa4 (V:=.agg (vc known).toArray) (cs:=vc known) rfl rfl hs fun b1 w2 hs=>(Qaa (Qa4 (V:=.agg (oc o).toArray) (cs:=oc o) rfl rfl hs fun b3 w4 hs=>(Qaa (Qad (V:=I6 0) rfl (Qae (Qag (Qan (Qag (Qab (Qaa (QaL (cs:=oc o) QbB hs 1 rfl rfl rfl (Qaa (Qat (vs:=[.agg (oc o).toArray,I6 16]) (V:=.bool (Qa8 o 16)) Qqy rfl rfl ?hc hs fun w5 hs=>?_))))))))))))))))
 case hc=>exact (Qil _ o 16 (by assumption))
 refine Qaa (Qbz rfl (Qaa (Qad (V:=.bool (!(Qa8 o 16))) rfl (Qae (Qam (t:=!(Qa8 o 16)) rfl (fun c6=>?_) (fun c6=>?_))))))
 ·
  replace c6:=Qby c6
  refine Qag (Qab (Qaa (Qad (V:=I6 2) rfl (Qae (Qaw ?_)))))
  refine ⟨_,Qaq (V:=I6 2) Tryz.results115 rfl,(Zr hs (congrArg (Value.int IntKind.i64) ?_))⟩
  unfold QbF
  rw [← Qca]
  simp_all
 replace c6:=Qbu c6
 refine Qag (Qab (Qaa (QaL (cs:=vc known) Qbk hs 0 rfl rfl rfl (Qaa (Qaf Qbp rfl (Qaa (QbY (vs:=dc o.dot) QcL hs 1 rfl rfl rfl rfl (Qaa (Qat (vs:=[.agg (vc known).toArray,.agg (dc o.dot).toArray]) (V:=.bool (Qbv known o.dot)) QlF rfl rfl ?hc hs fun w7 hs=>?_)))))))))
 case hc=>exact (QgA _ known o.dot (by first|assumption|exact QcP (by omega) (by omega) (by omega) (by omega)))
 refine Qaa (Qad (V:=.bool (Qbv known o.dot)) rfl (Qae (Qam (t:=Qbv known o.dot) rfl (fun c8=>?_) (fun c8=>?_))))
 ·
  refine Qag (Qab (Qaa (Qad (V:=I6 8) rfl (Qae (Qaw ?_)))))
  refine ⟨_,Qaq (V:=I6 8) Tryz.results115 rfl,(Zr hs (congrArg (Value.int IntKind.i64) ?_))⟩
  unfold QbF
  rw [← Qca]
  simp_all
 refine Qag (Qab (Qaa (Qaf QcM rfl (Qaa (QbY (vs:=vc o.ctx) Qbk hs 1 rfl rfl rfl rfl (Qaa (QaL (cs:=vc known) Qbk hs 0 rfl rfl rfl (Qaa (Qat (vs:=[.agg (vc o.ctx).toArray,.agg (vc known).toArray]) (V:=.bool (vle o.ctx known)) Qod rfl rfl ?hc hs fun w9 hs=>?_)))))))))
 case hc=>exact (QeS _ o.ctx known)
 refine Qaa (Qbz rfl (Qaa (Qad (V:=.bool (!(vle o.ctx known))) rfl (Qae (Qam (t:=!(vle o.ctx known)) rfl (fun c10=>?_) (fun c10=>?_))))))
 ·
  replace c10:=Qby c10
  refine Qag (Qab (Qaa (Qad (V:=I6 9) rfl (Qae (Qaw ?_)))))
  refine ⟨_,Qaq (V:=I6 9) Tryz.results115 rfl,(Zr hs (congrArg (Value.int IntKind.i64) ?_))⟩
  unfold QbF
  rw [← Qca]
  simp_all
 replace c10:=Qbu c10
 refine Qao (Qag (Qab (Qaa (Qad (V:=I6 0) rfl (Qae (Qaw ?_))))))
 refine ⟨_,Qaq (V:=I6 0) Tryz.results115 rfl,(Zr hs (congrArg (Value.int IntKind.i64) ?_))⟩
 unfold QbF
 rw [← Qca]
 simp_all
theorem QmP (w:World) (known:Vec) (o:Opn) (hO:Qcc o):Calls Tryz.prog 111 #[.agg (vc known).toArray,.agg (oc o).toArray] w (fun e w'=>e = .returned (.int .i64 (QbF known o))/\Own w no w' []):=by
 refine Qai (n:=20) Tryz.func111 rfl Tryz.ntmps111 rfl ?_
 have hs:=Own.start w
 have hdo:=hO.1
 refine Qag (Qab (Qaa (Qa4 (V:=.agg (vc known).toArray) (cs:=vc known) rfl rfl hs fun b1 w2 hs=>(Qaa (Qa4 (V:=.agg (oc o).toArray) (cs:=oc o) rfl rfl hs fun b3 w4 hs=>(Qaa (Qad (V:=I6 0) rfl (Qae (Qag (Qan (Qag (Qab (Qaa (QaL (cs:=oc o) QbB hs 1 rfl rfl rfl (Qaa (Qat (vs:=[.agg (oc o).toArray,I6 16]) (V:=.bool (Qa8 o 16)) Qs3 rfl rfl ?hc hs fun w5 hs=>?_))))))))))))))))
 case hc=>exact (QkO _ o 16 (by assumption))
 refine Qaa (Qbz rfl (Qaa (Qad (V:=.bool (!(Qa8 o 16))) rfl (Qae (Qam (t:=!(Qa8 o 16)) rfl (fun c6=>?_) (fun c6=>?_))))))
 ·
  replace c6:=Qby c6
  refine Qag (Qab (Qaa (Qad (V:=I6 2) rfl (Qae (Qaw ?_)))))
  refine ⟨_,Qaq (V:=I6 2) Tryz.results111 rfl,(Zr hs (congrArg (Value.int IntKind.i64) ?_))⟩
  unfold QbF
  rw [← Qca]
  simp_all
 replace c6:=Qbu c6
 refine Qag (Qab (Qaa (QaL (cs:=vc known) Qbk hs 0 rfl rfl rfl (Qaa (Qaf Qbp rfl (Qaa (QbY (vs:=dc o.dot) QcL hs 1 rfl rfl rfl rfl (Qaa (Qat (vs:=[.agg (vc known).toArray,.agg (dc o.dot).toArray]) (V:=.bool (Qbv known o.dot)) Qnj rfl rfl ?hc hs fun w7 hs=>?_)))))))))
 case hc=>exact (Qf6 _ known o.dot (by first|assumption|exact QcP (by omega) (by omega) (by omega) (by omega)))
 refine Qaa (Qad (V:=.bool (Qbv known o.dot)) rfl (Qae (Qam (t:=Qbv known o.dot) rfl (fun c8=>?_) (fun c8=>?_))))
 ·
  refine Qag (Qab (Qaa (Qad (V:=I6 8) rfl (Qae (Qaw ?_)))))
  refine ⟨_,Qaq (V:=I6 8) Tryz.results111 rfl,(Zr hs (congrArg (Value.int IntKind.i64) ?_))⟩
  unfold QbF
  rw [← Qca]
  simp_all
 refine Qag (Qab (Qaa (Qaf QcM rfl (Qaa (QbY (vs:=vc o.ctx) Qbk hs 1 rfl rfl rfl rfl (Qaa (QaL (cs:=vc known) Qbk hs 0 rfl rfl rfl (Qaa (Qat (vs:=[.agg (vc o.ctx).toArray,.agg (vc known).toArray]) (V:=.bool (vle o.ctx known)) QqX rfl rfl ?hc hs fun w9 hs=>?_)))))))))
 case hc=>exact (Qgd _ o.ctx known)
 refine Qaa (Qbz rfl (Qaa (Qad (V:=.bool (!(vle o.ctx known))) rfl (Qae (Qam (t:=!(vle o.ctx known)) rfl (fun c10=>?_) (fun c10=>?_))))))
 ·
  replace c10:=Qby c10
  refine Qag (Qab (Qaa (Qad (V:=I6 9) rfl (Qae (Qaw ?_)))))
  refine ⟨_,Qaq (V:=I6 9) Tryz.results111 rfl,(Zr hs (congrArg (Value.int IntKind.i64) ?_))⟩
  unfold QbF
  rw [← Qca]
  simp_all
 replace c10:=Qbu c10
 refine Qao (Qag (Qab (Qaa (Qad (V:=I6 0) rfl (Qae (Qaw ?_))))))
 refine ⟨_,Qaq (V:=I6 0) Tryz.results111 rfl,(Zr hs (congrArg (Value.int IntKind.i64) ?_))⟩
 unfold QbF
 rw [← Qca]
 simp_all
end Tt
end Go.Proofs
namespace Go.Proofs
open Go Go.Vx Go.RowKit
namespace Tt
theorem QnL (w:World) (p:Pst) (a1:Option Addr) (c1:Nat) (a2:Option Addr) (c2:Nat) (a3:Option Addr) (c3:Nat) (hok:Qdq p) (hle:p.base.ents.length<=400) (hlt:p.base.ticks.length<=400) (hlo:p.ops.length<=400) (hr1:Rd w (.slice a1 p.base.ents.length c1) 7 (p.base.ents.map cec)) (hr2:Rd w (.slice a2 p.base.ticks.length c2) 2 (p.base.ticks.map lsc)) (hr3:Rd w (.slice a3 p.ops.length c3) 23 (p.ops.map oc)):Calls Tryz.prog 59 #[.agg (((vc p.base.known)++[(.slice a1 p.base.ents.length c1:Value),(.slice a2 p.base.ticks.length c2:Value) ])++[(.slice a3 p.ops.length c3:Value) ]++(vc p.known)).toArray] w (fun e w'=>e = .returned (.bool (QcB p))/\Own w no w' []):=by
 refine Qai (n:=45) Tryz.func59 rfl Tryz.ntmps59 rfl ?_
 have hs:=Own.start w
 have ⟨hokb,hoko,hokk⟩:=hok
 have hn3:=hr3.sml
 refine Qag (Qab (Qaa (Qa4 (V:=.agg (((vc p.base.known)++[(.slice a1 p.base.ents.length c1:Value),(.slice a2 p.base.ticks.length c2:Value) ])++[(.slice a3 p.ops.length c3:Value) ]++(vc p.known)).toArray) (cs:=((vc p.base.known)++[(.slice a1 p.base.ents.length c1:Value),(.slice a2 p.base.ticks.length c2:Value) ])++[(.slice a3 p.ops.length c3:Value) ]++(vc p.known)) rfl rfl hs fun b1 w2 hs=>(Qaa (Qad (V:=.bool false) rfl (Qae (Qag (Qab (Qaa (Qgw rfl hs dv uv fun mr3 w4 hs=>(Qaa (Qad (V:=.map (some mr3)) rfl (Qae (Qag (Qag (Qab (Qaa (Qaf Qhu rfl (Qaa (QaQ (V:=.slice a3 p.ops.length c3) Qjg hs 0 rfl rfl rfl (Qaa (Qa3 (n:=p.ops.length) Qco (Rd.own' hr3 hs) (by simp) rfl (Qaa (Qac (V:=I6 0) rfl (Qae (Qan (QaD (fun J μ J' w'=>∃ (Jo:Env) (k:Nat) (sm:List (Dot × Unit)),J'=upd (mix ([2,5,6,7]++sq 12 30) Jo J) 12 (I6 (k:Int))/\(k<=p.ops.length)/\(∀ j:Nat,j<k->Qll p.base.known p.ops j=false)/\(sm=QiN (p.ops.take k))/\μ=p.ops.length-k/\Own w no w' [blk b1 (((vc p.base.known)++[(.slice a1 p.base.ents.length c1:Value),(.slice a2 p.base.ticks.length c2:Value) ])++[(.slice a3 p.ops.length c3:Value) ]++(vc p.known)) 43,QgF mr3 dv uv sm]) ?_ ?_)))))))))))))))))))))))))))
 ·exact ⟨_,_,0,[],Qal (Qap (ds:=([2,5,6,7]++sq 12 30)) (Agr.refl _ _)) rfl,(by omega),(fun j hj=>absurd hj (Nat.not_lt_zero j)),rfl,rfl,hs⟩
 rintro μ J' w5 ⟨Jo,k,sm,rfl,hk,hbo,hsm,rfl,hs⟩
 refine Qag (Qab (Qaa (Qa2 rfl rfl (Qae (Qag (Qam (t:=decide ((k:Int)<((p.ops.length:Nat):Int))) rfl (fun c6=>?_) (fun c6=>?_)))))))
 ·
  replace c6:=QQ1 c6
  refine Qao (Qag (Qan (Qag (Qab (Qaa (Qax Qco QbB.1 (Rd.own' hr3 hs) rfl rfl (by omega) (by rw [QQ6];omega) (Qaa (Qbb (j:=0) (vs:=oc (gd p.ops k)) k QbB (Rd.own' hr3 hs) (Qba (by omega)) rfl rfl rfl (by omega) (Qaa (QaK (cs:=oc (⟨(⟨0,0⟩:Dot),0,0,0,0,0,vzero⟩:Opn)) QiM rfl hs fun b7 w8 hs=>(Qaa (Qcx (V:=.agg (oc (gd p.ops k)).toArray) (vs:=oc (gd p.ops k)) (cs':=oc (gd p.ops k)) QbB.1 hs 2 rfl rfl rfl rfl rfl (QQ8 rfl) (Qc7 _) (Qaz rfl) fun w9 hs=>?_))))))))))))
  replace hs:Own w no w9 [blk b1 (((vc p.base.known)++[(.slice a1 p.base.ents.length c1:Value),(.slice a2 p.base.ticks.length c2:Value) ])++[(.slice a3 p.ops.length c3:Value) ]++(vc p.known)) 43,QgF mr3 dv uv sm,blk b7 (oc (gd p.ops k)) 98]:=hs
  refine Qae (Qag ?_)
  have hOk:=hoko _ (QbG (l:=p.ops) (i:=k) (by omega))
  have hdk:=hOk.1
  refine Qab (Qaa (Qac (V:=.map (some mr3)) rfl (Qaa (Qaf Qbp rfl (Qaa (QbY (vs:=dc ((gd p.ops k).dot)) QcL hs 2 rfl rfl rfl rfl (Qaa (Qgj (k:=(gd p.ops k).dot) QkC Qoz Qj7 (hs.mapf 1 rfl) rfl rfl (Qaa (Qac (V:=.tuple #[.agg #[],.bool ((mget ((gd p.ops k).dot) sm).isSome)]) rfl (Qaa (QaA (V:=.agg #[]) rfl rfl (Qaa (QaA (V:=.bool ((mget ((gd p.ops k).dot) sm).isSome)) rfl rfl (Qaa (QaK (cs:=[]) Qj7 rfl hs fun b10 w11 hs=>(Qaa (Qcx (V:=.agg #[]) (vs:=[]) (cs':=[]) Qqr.1 hs 3 rfl rfl rfl rfl rfl (QQ8 rfl) Qa1 (Qaz rfl) fun w12 hs=>(Qaa (Qad (V:=.bool ((mget ((gd p.ops k).dot) sm).isSome)) rfl (Qae (Qag (Qag (Qbw [some 23,some 24,some 25,some 26,some 27,some 28,some 29,some 30,some 31,some 32,some 33,some 34,some 35,some 36] [] [0,1,3,7,15,31,63,127,255,511,127,1151,4095,8191] [pv (.bool ((mget ((gd p.ops k).dot) sm).isSome)),pv (.bool ((mget ((gd p.ops k).dot) sm).isSome)),pg (((mget ((gd p.ops k).dot) sm).isSome) == false) (.agg (oc (gd p.ops k)).toArray),pg (((mget ((gd p.ops k).dot) sm).isSome) == false) (.bool (Qa8 (gd p.ops k) 16)),pg (((mget ((gd p.ops k).dot) sm).isSome) == false) (.bool (!(Qa8 (gd p.ops k) 16))),pv (.bool (((mget ((gd p.ops k).dot) sm).isSome)||(!(Qa8 (gd p.ops k) 16)))),pv (.bool (((mget ((gd p.ops k).dot) sm).isSome)||(!(Qa8 (gd p.ops k) 16)))),pg ((((mget ((gd p.ops k).dot) sm).isSome)||(!(Qa8 (gd p.ops k) 16))) == false) (Pq b1 (0+0)),pg ((((mget ((gd p.ops k).dot) sm).isSome)||(!(Qa8 (gd p.ops k) 16))) == false) (Pq b1 (0+0+0)),pg ((((mget ((gd p.ops k).dot) sm).isSome)||(!(Qa8 (gd p.ops k) 16))) == false) (.agg (vc p.base.known).toArray),pg ((((mget ((gd p.ops k).dot) sm).isSome)||(!(Qa8 (gd p.ops k) 16))) == false) (Pq b7 (0+0)),pg ((((mget ((gd p.ops k).dot) sm).isSome)||(!(Qa8 (gd p.ops k) 16))) == false) (.agg (dc ((gd p.ops k).dot)).toArray),pg ((((mget ((gd p.ops k).dot) sm).isSome)||(!(Qa8 (gd p.ops k) 16))) == false) (.bool (Qbv p.base.known ((gd p.ops k).dot))),pv (.bool ((((mget ((gd p.ops k).dot) sm).isSome)||(!(Qa8 (gd p.ops k) 16)))||(Qbv p.base.known ((gd p.ops k).dot))))] (fun _ _=>_) [13] (by kernel_rfl) hs ⟨?_,?_,?_,?_,?_,?_,?_,?_,?_,?_,?_,?_,?_,?_,trivial⟩ ?_))))))))))))))))))))))))
  ·exact oa [] fun D J w hs=>Qac (V:=.bool ((mget ((gd p.ops k).dot) sm).isSome)) rfl (Zz hs)
  ·exact oa [0] fun D J w hs=>Qac (V:=.bool ((mget ((gd p.ops k).dot) sm).isSome)) rfl (Zz hs)
  ·exact og [1] fun D J w hG hs=>QaL (cs:=oc (gd p.ops k)) QbB hs 2 rfl rfl rfl (Zz hs)
  ·exact oy [1,2] [2] fun D J w hG hs=>Qat (vs:=[.agg (oc (gd p.ops k)).toArray,.int .i64 16]) (V:=.bool (Qa8 (gd p.ops k) 16)) Qqy rfl rfl (Qil _ (gd p.ops k) 16 (by assumption)) hs fun _ hs=>Zz hs
  ·exact oy [1,3] [3] fun D J w hG hs=>Qbz rfl (Zz hs)
  ·exact oa [1,4] fun D J w hs=>Qcs (h':=!(Qa8 (gd p.ops k) 16)) rfl rfl rfl (Zz hs)
  ·exact oa [5] fun D J w hs=>Qac (V:=.bool (((mget ((gd p.ops k).dot) sm).isSome)||(!(Qa8 (gd p.ops k) 16)))) rfl (Zz hs)
  ·exact og [6] fun D J w hG hs=>Qaf Qfa rfl (Zz hs)
  ·exact oy [6,7] [7] fun D J w hG hs=>Qaf QeD rfl (Zz hs)
  ·exact oy [6,8] [8] fun D J w hG hs=>QbY (vs:=vc p.base.known) Qbk hs 0 rfl rfl rfl rfl (Zz hs)
  ·exact og [6] fun D J w hG hs=>Qaf Qbp rfl (Zz hs)
  ·exact oy [6,10] [10] fun D J w hG hs=>QbY (vs:=dc ((gd p.ops k).dot)) QcL hs 2 rfl rfl rfl rfl (Zz hs)
  ·exact oy [6,9,11] [9,11] fun D J w hG hs=>Qat (vs:=[.agg (vc p.base.known).toArray,.agg (dc ((gd p.ops k).dot)).toArray]) (V:=.bool (Qbv p.base.known ((gd p.ops k).dot))) QlF rfl rfl (QgA _ p.base.known ((gd p.ops k).dot) (by first|assumption|exact QcP (by omega) (by omega) (by omega) (by omega))) hs fun _ hs=>Zz hs
  ·exact oa [6,12] fun D J w hs=>Qcs (h':=Qbv p.base.known ((gd p.ops k).dot)) rfl rfl rfl (Zz hs)
  rintro J1 w15 J2 hJ hs
  replace hJ:J2=upd (mix (sq 23 14) J1 _) 36 (.bool ((((mget ((gd p.ops k).dot) sm).isSome)||(!(Qa8 (gd p.ops k) 16)))||(Qbv p.base.known ((gd p.ops k).dot)))):=hJ
  subst hJ
  refine Qam (t:=(((mget ((gd p.ops k).dot) sm).isSome)||(!(Qa8 (gd p.ops k) 16)))||(Qbv p.base.known ((gd p.ops k).dot))) rfl (fun c16=>?_) (fun c16=>?_)
  ·
   refine Qag (Qab (Qaa (Qad (V:=.bool false) rfl (Qae (Qaw ?_)))))
   refine ⟨_,Qaq (V:=.bool false) Tryz.results59 rfl,(Zr hs (congrArg Value.bool (Qg4 (i:=k) (by omega) ?_).symm))⟩
   unfold Qll
   rw [← QiP,← hsm]
   have hq:=c16
   revert hq
   cases Qa8 (gd p.ops k) 16<;>cases Qbv p.base.known (gd p.ops k).dot<;>cases (mget (gd p.ops k).dot sm).isSome<;>simp
  have c16r:=QgD c16
  replace c16:=QgK c16
  have c16rr:=QgD c16
  replace c16:=QgK c16
  replace c16rr:=Qbu c16rr
  refine Qao (Qab (Qaa (Qac (V:=.map (some mr3)) rfl (Qaa (Qaf Qbp rfl (Qaa (QbY (vs:=dc ((gd p.ops k).dot)) QcL hs 2 rfl rfl rfl rfl (Qaa (QbD (vs:=[]) (cs:=[]) Qqh (rfl) rfl (Qaa (QfK (k:=(gd p.ops k).dot) (v:=()) QkC Qoz hs 1 rfl rfl rfl rfl fun w17 hs=>(Qae (Qab (Qaa (QaF (a:=(k:Int)) (b:=1) (c:=((k+1:Nat):Int)) rfl rfl (Qak (by omega) (by omega)) (Qaa (Qac (V:=I6 ((k+1:Nat):Int)) rfl (Qae ?_))))))))))))))))))
  have hbk:Qll p.base.known p.ops k=false:=by
   unfold Qll
   rw [c16rr,c16r,← QiP,← hsm,c16];rfl
  refine ⟨_,?_,_,k+1,mput ((gd p.ops k).dot) () sm,Qal (Qap (ds:=([2,5,6,7]++sq 12 30)) (by repeat (first|exact Agr.refl _ _|refine Agr.upd ?_ rfl|refine Agr.mix ?_ rfl))) rfl,(by omega),(QcO hbo hbk),(by rw [QkV (by omega),← hsm]),rfl,hs.take 2⟩
  omega
 replace c6:=QQ2 c6
 refine QaJ (Qag (Qab (Qaa (Qaf Qfa rfl (Qaa (QbY (vs:=(vc p.base.known)++[(.slice a1 p.base.ents.length c1:Value),(.slice a2 p.base.ticks.length c2:Value) ]) QbU hs 0 rfl rfl rfl rfl (Qaa (Qat (vs:=[.agg ((vc p.base.known)++[(.slice a1 p.base.ents.length c1:Value),(.slice a2 p.base.ticks.length c2:Value) ]).toArray]) (V:=.bool (Qav p.base)) Qog rfl rfl ?hc hs fun w18 hs=>?_))))))))
 case hc=>exact (Qe8 _ p.base a1 c1 a2 c2 hokb (by omega) (by omega) (Rd.own' hr1 hs) (Rd.own' hr2 hs))
 refine Qaa (Qad (V:=.bool (Qav p.base)) rfl (Qae (Qaw ?_)))
 refine ⟨_,Qaq (V:=.bool (Qav p.base)) Tryz.results59 rfl,(Zr hs ?_)⟩
 exact congrArg Value.bool (Qio fun j hj=>hbo j (by omega)).symm
theorem QnR (w:World) (p:Pst) (a1:Option Addr) (c1:Nat) (a2:Option Addr) (c2:Nat) (a3:Option Addr) (c3:Nat) (cut:Vec) (hcut:QbM cut) (hok:Qdq p) (hle:p.base.ents.length<=400) (hlt:p.base.ticks.length<=400) (hlo:p.ops.length<=400) (hr1:Rd w (.slice a1 p.base.ents.length c1) 7 (p.base.ents.map cec)) (hr2:Rd w (.slice a2 p.base.ticks.length c2) 2 (p.base.ticks.map lsc)) (hr3:Rd w (.slice a3 p.ops.length c3) 23 (p.ops.map oc)):Calls Tryz.prog 17 #[.agg (((vc p.base.known)++[(.slice a1 p.base.ents.length c1:Value),(.slice a2 p.base.ticks.length c2:Value) ])++[(.slice a3 p.ops.length c3:Value) ]++(vc p.known)).toArray,.agg (vc cut).toArray] w (fun e w'=>e = .returned (.int .i64 (Qbh p cut))/\Own w no w' []):=by
 refine Qai (n:=26) Tryz.func17 rfl Tryz.ntmps17 rfl ?_
 have hs:=Own.start w
 have ⟨hokb,hoko,hokk⟩:=hok
 refine Qag (Qab (Qaa (Qa4 (V:=.agg (((vc p.base.known)++[(.slice a1 p.base.ents.length c1:Value),(.slice a2 p.base.ticks.length c2:Value) ])++[(.slice a3 p.ops.length c3:Value) ]++(vc p.known)).toArray) (cs:=((vc p.base.known)++[(.slice a1 p.base.ents.length c1:Value),(.slice a2 p.base.ticks.length c2:Value) ])++[(.slice a3 p.ops.length c3:Value) ]++(vc p.known)) rfl rfl hs fun b1 w2 hs=>(Qaa (Qa4 (V:=.agg (vc cut).toArray) (cs:=vc cut) rfl rfl hs fun b3 w4 hs=>(Qaa (Qad (V:=I6 0) rfl (Qae (Qag (Qan (Qag (Qab (Qaa (QaL (cs:=((vc p.base.known)++[(.slice a1 p.base.ents.length c1:Value),(.slice a2 p.base.ticks.length c2:Value) ])++[(.slice a3 p.ops.length c3:Value) ]++(vc p.known)) QcU hs 0 rfl rfl rfl (Qaa (Qat (vs:=[.agg (((vc p.base.known)++[(.slice a1 p.base.ents.length c1:Value),(.slice a2 p.base.ticks.length c2:Value) ])++[(.slice a3 p.ops.length c3:Value) ]++(vc p.known)).toArray]) (V:=.bool (QcB p)) Qvk rfl rfl ?hc hs fun w5 hs=>?_))))))))))))))))
 case hc=>exact (QnL _ p a1 c1 a2 c2 a3 c3 hok hle hlt hlo (Rd.own' hr1 hs) (Rd.own' hr2 hs) (Rd.own' hr3 hs))
 refine Qaa (Qbz rfl (Qaa (Qad (V:=.bool (!(QcB p))) rfl (Qae (Qam (t:=!(QcB p)) rfl (fun c6=>?_) (fun c6=>?_))))))
 ·
  replace c6:=Qby c6
  refine Qag (Qab (Qaa (Qad (V:=I6 2) rfl (Qae (Qaw ?_)))))
  refine ⟨_,Qaq (V:=I6 2) Tryz.results17 rfl,(Zr hs (congrArg (Value.int .i64) ?_))⟩
  unfold Qbh
  rw [c6];rfl
 replace c6:=Qbu c6
 refine Qag (Qab (Qaa (QaL (cs:=vc cut) Qbk hs 1 rfl rfl rfl (Qaa (Qat (vs:=[.agg (vc cut).toArray,I6 16]) (V:=.bool (QaR cut 16)) Qry rfl rfl ?hc hs fun w7 hs=>?_)))))
 case hc=>exact (QfU _ cut 16 (by first|assumption|exact QcD))
 refine Qaa (Qbz rfl (Qaa (Qad (V:=.bool (!(QaR cut 16))) rfl (Qae (Qam (t:=!(QaR cut 16)) rfl (fun c8=>?_) (fun c8=>?_))))))
 ·
  replace c8:=Qby c8
  refine Qag (Qab (Qaa (Qad (V:=I6 13) rfl (Qae (Qaw ?_)))))
  refine ⟨_,Qaq (V:=I6 13) Tryz.results17 rfl,(Zr hs (congrArg (Value.int .i64) ?_))⟩
  unfold Qbh
  rw [c6,c8];rfl
 replace c8:=Qbu c8
 refine Qag (Qab (Qaa (QaL (cs:=vc cut) Qbk hs 1 rfl rfl rfl (Qaa (Qaf Qjx rfl (Qaa (QbY (vs:=vc p.known) Qbk hs 0 rfl rfl rfl rfl (Qaa (Qat (vs:=[.agg (vc cut).toArray,.agg (vc p.known).toArray]) (V:=.bool (vle cut p.known)) Qod rfl rfl ?hc hs fun w9 hs=>?_)))))))))
 case hc=>exact (QeS _ cut p.known)
 refine Qaa (Qbz rfl (Qaa (Qad (V:=.bool (!(vle cut p.known))) rfl (Qae (Qam (t:=!(vle cut p.known)) rfl (fun c10=>?_) (fun c10=>?_))))))
 ·
  replace c10:=Qby c10
  refine Qag (Qab (Qaa (Qad (V:=I6 11) rfl (Qae (Qaw ?_)))))
  refine ⟨_,Qaq (V:=I6 11) Tryz.results17 rfl,(Zr hs (congrArg (Value.int .i64) ?_))⟩
  unfold Qbh
  rw [c6,c8,c10];rfl
 replace c10:=Qbu c10
 refine Qag (Qab (Qaa (Qaf Qfa rfl (Qaa (Qaf QeD rfl (Qaa (QbY (vs:=vc p.base.known) Qbk hs 0 rfl rfl rfl rfl (Qaa (QaL (cs:=vc cut) Qbk hs 1 rfl rfl rfl (Qaa (Qat (vs:=[.agg (vc p.base.known).toArray,.agg (vc cut).toArray]) (V:=.bool (vle p.base.known cut)) Qod rfl rfl ?hc hs fun w11 hs=>?_)))))))))))
 case hc=>exact (QeS _ p.base.known cut)
 refine Qaa (Qbz rfl (Qaa (Qad (V:=.bool (!(vle p.base.known cut))) rfl (Qae (Qam (t:=!(vle p.base.known cut)) rfl (fun c12=>?_) (fun c12=>?_))))))
 ·
  replace c12:=Qby c12
  refine Qag (Qab (Qaa (Qad (V:=I6 12) rfl (Qae (Qaw ?_)))))
  refine ⟨_,Qaq (V:=I6 12) Tryz.results17 rfl,(Zr hs (congrArg (Value.int .i64) ?_))⟩
  unfold Qbh
  rw [c6,c8,c10,c12];rfl
 replace c12:=Qbu c12
 refine Qao (Qag (Qab (Qaa (Qad (V:=I6 0) rfl (Qae (Qaw ?_))))))
 refine ⟨_,Qaq (V:=I6 0) Tryz.results17 rfl,(Zr hs (congrArg (Value.int .i64) ?_))⟩
 unfold Qbh
 rw [c6,c8,c10,c12];rfl
end Tt
end Go.Proofs
namespace Go.Proofs
open Go Go.Vx Go.RowKit
namespace Tt
theorem Qoh (w:World) (x:Cen):Calls Tryz.prog 47 #[.agg (cec x).toArray] w (fun e w'=>e = .returned (.agg (oc (QaG x)).toArray)/\Own w no w' []):=by
 refine Qai (n:=14) Tryz.func47 rfl Tryz.ntmps47 rfl ?_
 have hs:=Own.start w
 refine Qag (Qab (Qaa (Qa4 (V:=.agg (cec x).toArray) (cs:=cec x) rfl rfl hs fun b1 w2 hs=>(Qaa (QaK (cs:=oc (⟨(⟨0,0⟩:Dot),0,0,0,0,0,vzero⟩:Opn)) QiM rfl hs fun b3 w4 hs=>(Qae (Qag (Qab (Qaa (Qaf QbN rfl (Qaa (QbY (vs:=dc x.dot) QcL hs 0 rfl rfl rfl rfl (Qaa (Qaf Qef rfl (Qaa (QaQ (V:=.int .u8 x.kind) Qdw hs 0 rfl rfl rfl (Qaa (Qaf Qde rfl (Qaa (QaQ (V:=I7 x.cart) Qar hs 0 rfl rfl rfl (Qaa (Qaf Qdg rfl (Qaa (QaQ (V:=I7 x.item) Qar hs 0 rfl rfl rfl (Qaa (Qaf Qeg rfl (Qaa (QaQ (V:=I7 x.qty) Qar hs 0 rfl rfl rfl (Qaa (QcC (vs:=[(0,.agg (dc x.dot).toArray),(1,.int .u8 x.kind),(2,I7 x.cart),(3,I7 x.item),(4,I7 x.qty)]) (cs:=oc (⟨x.dot,x.kind,x.cart,x.item,x.qty,0,vzero⟩:Opn)) [dc (⟨0,0⟩:Dot),[(.int .u8 0:Value)],[(I7 0:Value)],[(I7 0:Value)],[(I7 0:Value)],[(.int .u32 0:Value)],vc vzero] [dc x.dot,[(.int .u8 x.kind:Value)],[(I7 x.cart:Value)],[(I7 x.item:Value)],[(I7 x.qty:Value)],[(.int .u32 0:Value)],vc vzero] QrJ rfl (rfl) rfl rfl (Qaa (Qcx (V:=.agg (oc (⟨x.dot,x.kind,x.cart,x.item,x.qty,0,vzero⟩:Opn)).toArray) (vs:=oc (⟨x.dot,x.kind,x.cart,x.item,x.qty,0,vzero⟩:Opn)) (cs':=oc (⟨x.dot,x.kind,x.cart,x.item,x.qty,0,vzero⟩:Opn)) QbB.1 hs 1 rfl rfl rfl rfl rfl (QQ8 rfl) (Qc7 _) (Qaz rfl) fun w5 hs=>(Qae (Qaw ?_))))))))))))))))))))))))))))))))))
 refine ⟨_,QdH (cs:=oc (⟨x.dot,x.kind,x.cart,x.item,x.qty,0,vzero⟩:Opn)) Tryz.results47 QbB hs 1 rfl rfl rfl,(Zr hs ?_)⟩
 rfl
theorem order_ok (w:World) (x y:Cen):Calls Tryz.prog 49 #[.agg (cec x).toArray,.agg (cec y).toArray] w (fun e w'=>e = .returned (.int .i64 (QbS x y))/\Own w no w' []):=by
 refine Qai (n:=26) Tryz.func49 rfl Tryz.ntmps49 rfl ?_
 have hs:=Own.start w
 refine Qag (Qab (Qaa (Qa4 (V:=.agg (cec x).toArray) (cs:=cec x) rfl rfl hs fun b1 w2 hs=>(Qaa (Qa4 (V:=.agg (cec y).toArray) (cs:=cec y) rfl rfl hs fun b3 w4 hs=>(Qaa (Qad (V:=I6 0) rfl (Qae (Qag ?_)))))))))
 replace hs:=hs.more emp trivial
 refine QaH HM [some 5,some 6,some 7,some 8,some 9,some 10,some 11,some 12,some 13,some 14,some 15,some 16,some 17,some 18,some 19,some 20,some 21,some 22,some 23,some 24,some 25,some 4] [[],[],[],[],[],[],[],[],[],[],[],[],[],[],[],[],[],[],[],[24]] [0,1,0,4,15,0,32,96,0,256,768,2047,0,4096,12288,0,32768,98304,262143,524287,1048575,2097151] [pv (Pq b1 (0+0)),pv (I7 x.cart),pv (Pq b3 (0+0)),pv (I7 y.cart),pv (I6 (Qa0 x.cart y.cart)),pv (Pq b1 (0+4)),pv (Pq b1 (0+4+0)),pv (.int .u8 x.dot.rep),pv (Pq b3 (0+4)),pv (Pq b3 (0+4+0)),pv (.int .u8 y.dot.rep),pv (I6 (Qa0 x.dot.rep y.dot.rep)),pv (Pq b1 (0+4)),pv (Pq b1 (0+4+1)),pv (.int .u32 x.dot.seq),pv (Pq b3 (0+4)),pv (Pq b3 (0+4+1)),pv (.int .u32 y.dot.seq),pv (I6 (Qa0 x.dot.seq y.dot.seq)),(true,fun J=>.slice (some ⟨(bOf (J 24)),0,none⟩) 3 3),pv (I6 (orI [Qa0 x.cart y.cart,Qa0 x.dot.rep y.dot.rep,Qa0 x.dot.seq y.dot.seq])),pv (I6 (orI [Qa0 x.cart y.cart,Qa0 x.dot.rep y.dot.rep,Qa0 x.dot.seq y.dot.seq]))] (fun D J=>[blk b1 (cec x) 106,blk b3 (cec y) 106,cond (D 19) (row (.slice (some ⟨(bOf (J 24)),0,none⟩) 3 3) ([Qa0 x.cart y.cart,Qa0 x.dot.rep y.dot.rep,Qa0 x.dot.seq y.dot.seq].map (ic .i64)) 3 1) (emp)]) [21] (by kernel_rfl) hs ⟨?_,?_,?_,?_,?_,?_,?_,?_,?_,?_,?_,?_,?_,?_,?_,?_,?_,?_,?_,?_,?_,?_,trivial⟩ ?_
 ·exact oa [] fun D J w hs=>Qaf Qde rfl (Zz hs)
 ·exact oa [0] fun D J w hs=>QaQ (V:=.int .u16 x.cart) Qar hs 0 rfl rfl rfl (Zz hs)
 ·exact oa [] fun D J w hs=>Qaf Qde rfl (Zz hs)
 ·exact oa [2] fun D J w hs=>QaQ (V:=.int .u16 y.cart) Qar hs 1 rfl rfl rfl (Zz hs)
 ·exact oa [1,3] fun D J w hs=>Qat (vs:=[.int .u16 x.cart,.int .u16 y.cart]) (V:=.int .i64 (Qa0 x.cart y.cart)) QoW rfl rfl (QcY _ x.cart y.cart) hs fun _ hs=>Zz hs
 ·exact oa [] fun D J w hs=>Qaf QbN rfl (Zz hs)
 ·exact oa [5] fun D J w hs=>Qaf QbZ rfl (Zz hs)
 ·exact oa [6] fun D J w hs=>QaQ (V:=.int .u8 x.dot.rep) Qdw hs 0 rfl rfl rfl (Zz hs)
 ·exact oa [] fun D J w hs=>Qaf QbN rfl (Zz hs)
 ·exact oa [8] fun D J w hs=>Qaf QbZ rfl (Zz hs)
 ·exact oa [9] fun D J w hs=>QaQ (V:=.int .u8 y.dot.rep) Qdw hs 1 rfl rfl rfl (Zz hs)
 ·exact oa [7,10] fun D J w hs=>Qat (vs:=[.int .u8 x.dot.rep,.int .u8 y.dot.rep]) (V:=.int .i64 (Qa0 x.dot.rep y.dot.rep)) Qro rfl rfl (Qd3 _ x.dot.rep y.dot.rep) hs fun _ hs=>Zz hs
 ·exact oa [] fun D J w hs=>Qaf QbN rfl (Zz hs)
 ·exact oa [12] fun D J w hs=>Qaf Qb0 rfl (Zz hs)
 ·exact oa [13] fun D J w hs=>QaQ (V:=.int .u32 x.dot.seq) QaX hs 0 rfl rfl rfl (Zz hs)
 ·exact oa [] fun D J w hs=>Qaf QbN rfl (Zz hs)
 ·exact oa [15] fun D J w hs=>Qaf Qb0 rfl (Zz hs)
 ·exact oa [16] fun D J w hs=>QaQ (V:=.int .u32 y.dot.seq) QaX hs 1 rfl rfl rfl (Zz hs)
 ·exact oa [14,17] fun D J w hs=>Qat (vs:=[.int .u32 x.dot.seq,.int .u32 y.dot.seq]) (V:=.int .i64 (Qa0 x.dot.seq y.dot.seq)) Qrw rfl rfl (QdN _ x.dot.seq y.dot.seq) hs fun _ hs=>Zz hs
 ·exact oa [4,11,18] fun D J w hs=>QhQ (vals:=[.int .i64 (Qa0 x.cart y.cart),.int .i64 (Qa0 x.dot.rep y.dot.rep),.int .i64 (Qa0 x.dot.seq y.dot.seq)]) (ls:=List.map (ic .i64) ([Qa0 x.cart y.cart,Qa0 x.dot.rep y.dot.rep,Qa0 x.dot.seq y.dot.seq]:List Int)) QnP rfl rfl rfl (Qbi (enc:=(ic .i64)) (fun _=>rfl) _) (QaV (Qfq .i64) _) (QQ8 rfl) hs fun _ _ hs=>⟨rfl,hs.put 2 (QQ8 rfl)⟩
 ·exact oa [19] fun D J w hs=>Qat (vs:=[.slice (some ⟨(bOf (J 24)),0,none⟩) 3 3]) (V:=.int .i64 (orI [Qa0 x.cart y.cart,Qa0 x.dot.rep y.dot.rep,Qa0 x.dot.seq y.dot.seq])) Qsr rfl rfl (QqS _ (some ⟨(bOf (J 24)),0,none⟩) 3 [Qa0 x.cart y.cart,Qa0 x.dot.rep y.dot.rep,Qa0 x.dot.seq y.dot.seq] (hs.rd 2 rfl)) hs fun _ hs=>Zz hs
 ·exact oa [20] fun D J w hs=>Qad (V:=.int .i64 (orI [Qa0 x.cart y.cart,Qa0 x.dot.rep y.dot.rep,Qa0 x.dot.seq y.dot.seq])) rfl (Zz hs)
 rintro J1 w10 J2 hJ hs
 replace hJ:J2=upd (mix (sq 5 21++[4]) J1 _) 4 (I6 (orI [Qa0 x.cart y.cart,Qa0 x.dot.rep y.dot.rep,Qa0 x.dot.seq y.dot.seq])):=hJ
 replace hs:Own w no w10 [blk b1 (cec x) 106,blk b3 (cec y) 106,row (.slice (some ⟨(bOf (J1 24)),0,none⟩) 3 3) ([Qa0 x.cart y.cart,Qa0 x.dot.rep y.dot.rep,Qa0 x.dot.seq y.dot.seq].map (ic .i64)) 3 1]:=hs
 generalize (bOf (J1 24))=b11 at hs
 subst hJ
 refine Qaw ?_
 refine ⟨_,Qaq (V:=I6 (orI [Qa0 x.cart y.cart,Qa0 x.dot.rep y.dot.rep,Qa0 x.dot.seq y.dot.seq])) Tryz.results49 rfl,(Zr hs ?_)⟩
 rfl
theorem Qkj (w:World) (b:Bool):Calls Tryz.prog 106 #[.bool b] w (fun e w'=>e = .returned (.int .u32 (QcF b))/\Own w no w' []):=by
 refine Qai (n:=4) Tryz.func106 rfl Tryz.ntmps106 rfl ?_
 have hs:=Own.start w
 refine Qag (Qab (Qaa (Qad (V:=.int .u32 0) rfl (Qae (Qag (Qag (Qab (Qaa (Qac (V:=.bool b) rfl (Qae (Qam (t:=b) rfl (fun c1=>?_) (fun c1=>?_))))))))))))
 ·
  refine Qag (Qab (Qaa (Qad (V:=.int .u32 1) rfl (Qae (Qaw ?_)))))
  refine ⟨_,Qaq (V:=.int .u32 1) Tryz.results106 rfl,(Zr hs ?_)⟩
  cases b<;>simp_all [QcF]
 refine Qao (Qag (Qab (Qaa (Qad (V:=.int .u32 0) rfl (Qae (Qaw ?_))))))
 refine ⟨_,Qaq (V:=.int .u32 0) Tryz.results106 rfl,(Zr hs ?_)⟩
 cases b<;>simp_all [QcF]
end Tt
end Go.Proofs
namespace Go.Proofs
open Go Go.Vx Go.RowKit
namespace Tt
theorem QpQ (w:World) (a:Option Addr) (c:Nat) (l:List Opn) (g:Nat) (caps:List Value) (hg:En Tryz.prog g) (p:Opn->Bool) (hp:∀ (w1:World) (L1:List Res),Own w no w1 L1->∀ x∈l,Calls Tryz.prog g ([(.agg (oc x).toArray:Value)]++caps).toArray w1 (fun e w'=>e = .returned (.bool (p x))/\Own w1 no w' [])) (hr:Rd w (.slice a l.length c) 23 (l.map oc)):Calls Tryz.prog 89 #[.slice a l.length c,.func (.func g) #[] caps.toArray] w (fun e w'=>e = .returned (.int .i64 (QeE p l))/\Own w no w' []):=by
 refine Qai (n:=19) Tryz.func89 rfl Tryz.ntmps89 rfl ?_
 have hs:=Own.start w
 have hn:=hr.sml
 refine Qag (Qab (Qaa (Qad (V:=I6 0) rfl (Qae (Qag (Qag (Qab (Qaa (Qac (V:=.slice a l.length c) rfl (Qaa (Qa3 (n:=l.length) Qco (Rd.own' hr hs) (by simp) rfl (Qaa (Qac (V:=I6 0) rfl (Qae (Qan (QaD (fun J μ J' w'=>∃ (Jo:Env) (k:Nat),J'=upd (mix ([4,5]++sq 8 11) Jo J) 8 (I6 (k:Int))/\(k<=l.length)/\(∀ j:Nat,j<k->p (gd l j)=false)/\μ=l.length-k/\Own w no w' []) ?_ ?_))))))))))))))))
 ·exact ⟨_,_,0,Qal (Qap (ds:=([4,5]++sq 8 11)) (Agr.refl _ _)) rfl,(by omega),(fun j hj=>absurd hj (Nat.not_lt_zero j)),rfl,hs⟩
 rintro μ J' w1 ⟨Jo,k,rfl,hk,hno,rfl,hs⟩
 refine Qag (Qab (Qaa (Qa2 rfl rfl (Qae (Qag (Qam (t:=decide ((k:Int)<((l.length:Nat):Int))) rfl (fun c2=>?_) (fun c2=>?_)))))))
 ·
  replace c2:=QQ1 c2
  refine Qao (Qag (Qan (Qag (Qab (Qaa (Qac (V:=I6 (k:Int)) rfl (Qaa (Qad (V:=I6 (k:Int)) rfl (Qae (Qag (Qab (Qaa (Qac (V:=.func (.func g) #[] caps.toArray) rfl (Qaa (Qac (V:=.slice a l.length c) rfl (Qaa (Qac (V:=I6 (k:Int)) rfl (Qaa (Qax Qco QbB.1 (Rd.own' hr hs) rfl rfl (by omega) (by rw [QQ6];omega) (Qaa (Qbb (j:=0) (vs:=oc (gd l k)) k QbB (Rd.own' hr hs) (Qba (by omega)) rfl rfl rfl (by omega) (Qaa (Qfo (vs:=[.agg (oc (gd l k)).toArray]) (cs:=caps) (V:=.bool (p (gd l k))) hg rfl rfl (hp _ _ hs (gd l k) (QbG (by omega))) hs fun w3 hs=>(Qae (Qam (t:=p (gd l k)) rfl (fun c4=>?_) (fun c4=>?_))))))))))))))))))))))))))
  ·
   refine Qag (Qab (Qaa (Qac (V:=I6 (k:Int)) rfl (Qaa (Qad (V:=I6 (k:Int)) rfl (Qae (Qaw ?_)))))))
   refine ⟨_,Qaq (V:=I6 (k:Int)) Tryz.results89 rfl,(Zr hs ?_)⟩
   exact congrArg (Value.int .i64) (Qi0 (by omega) hno c4).symm
  refine Qao (Qab (Qaa (QaF (a:=(k:Int)) (b:=1) (c:=(k:Int)+1) rfl rfl (QbE (by omega) (by omega)) (Qaa (Qac (V:=I6 ((k:Int)+1)) rfl (Qae ?_))))))
  refine ⟨_,?_,_,k+1,Qal (Qap (ds:=([4,5]++sq 8 11)) (by repeat (first|exact Agr.refl _ _|refine Agr.upd ?_ rfl|refine Agr.mix ?_ rfl))) rfl,(by omega),(QcO hno c4),rfl,hs.take 0⟩
  omega
 replace c2:=QQ2 c2
 refine QaJ (Qag (Qab (Qaa (Qad (V:=I6 (-1)) rfl (Qae (Qaw ?_))))))
 refine ⟨_,Qaq (V:=I6 (-1)) Tryz.results89 rfl,(Zr hs ?_)⟩
 exact congrArg (Value.int .i64) (QlV fun j hj=>hno j (by omega)).symm
theorem QpC (w:World) (a:Option Addr) (c:Nat) (l:List Opn) (g:Nat) (caps:List Value) (hg:En Tryz.prog g) (p:Opn->Bool) (hp:∀ (w1:World) (L1:List Res),Own w no w1 L1->∀ x∈l,Calls Tryz.prog g ([(.agg (oc x).toArray:Value)]++caps).toArray w1 (fun e w'=>e = .returned (.bool (p x))/\Own w1 no w' [])) (hr:Rd w (.slice a l.length c) 23 (l.map oc)):Calls Tryz.prog 44 #[.slice a l.length c,.func (.func g) #[] caps.toArray] w (fun e w'=>e = .returned (.bool (l.any p))/\Own w no w' []):=by
 refine Qai (n:=9) Tryz.func44 rfl Tryz.ntmps44 rfl ?_
 have hs:=Own.start w
 have hn:=hr.sml
 refine Qag (Qab (Qaa (Qad (V:=.bool false) rfl (Qae (Qag (Qab (Qaa (Qac (V:=.slice a l.length c) rfl (Qaa (Qac (V:=.func (.func g) #[] caps.toArray) rfl (Qaa (Qat (vs:=[.slice a l.length c,.func (.func g) #[] caps.toArray]) (V:=I6 (QeE p l)) QvR rfl rfl ?hc hs fun w1 hs=>?_))))))))))))
 case hc=>exact (QpQ _ a c l g caps hg p (fun w1 L1 h=>hp w1 _ (hs.call h)) (Rd.own' hr hs))
 refine Qaa (QcZ rfl rfl (Qaa (Qad (V:=.bool (decide (0<=QeE p l))) rfl (Qae (Qaw ?_)))))
 refine ⟨_,Qaq (V:=.bool (decide (0<=QeE p l))) Tryz.results44 rfl,(Zr hs ?_)⟩
 exact congrArg Value.bool Qrf
theorem Qlf (w:World) (o:Opn) (x:Cen) (bx:Nat) (hx:Qc9 x.dot) (hc:Qb8 w bx (cec x)):Calls Tryz.prog 45 #[.agg (oc o).toArray,.pointer (some ⟨bx,0,none⟩)] w (fun e w'=>e = .returned (.bool (QaE o (QaG x)))/\Own w no w' []):=by
 refine Qai (n:=8) Tryz.func45 rfl Tryz.ntmps45 rfl ?_
 have hs:=Own.start w
 refine Qag (Qab (Qaa (Qa4 (V:=.agg (oc o).toArray) (cs:=oc o) rfl rfl hs fun b1 w2 hs=>(Qaa (Qad (V:=.bool false) rfl (Qae (Qag (QaH HM [some 4,some 5,some 6,some 7,some 3] [] [0,0,2,7,15] [pv (.agg (oc o).toArray),pv (.agg (cec x).toArray),pv (.agg (oc (QaG x)).toArray),pv (.bool (QaE o (QaG x))),pv (.bool (QaE o (QaG x)))] (fun _ _=>_) [4] (by kernel_rfl) hs ⟨?_,?_,?_,?_,?_,trivial⟩ ?_))))))))
 ·exact oa [] fun D J w hs=>QaL (cs:=oc o) QbB hs 0 rfl rfl rfl (Zz hs)
 ·exact oa [] fun D J w hs=>Qmg (vs:=cec x) QaB (hc.own' hs) rfl rfl rfl (Zz hs)
 ·exact oa [1] fun D J w hs=>Qat (vs:=[.agg (cec x).toArray]) (V:=.agg (oc (QaG x)).toArray) QvC rfl rfl (Qoh _ x) hs fun _ hs=>Zz hs
 ·exact oa [0,2] fun D J w hs=>Qat (vs:=[.agg (oc o).toArray,.agg (oc (QaG x)).toArray]) (V:=.bool (QaE o (QaG x))) Qt6 rfl rfl (QjT _ o (QaG x) hx) hs fun _ hs=>Zz hs
 ·exact oa [3] fun D J w hs=>Qad (V:=.bool (QaE o (QaG x))) rfl (Zz hs)
 rintro J1 w5 J2 hJ hs
 replace hJ:J2=upd (mix [4,5,6,7,3] J1 _) 3 (.bool (QaE o (QaG x))):=hJ
 subst hJ
 refine Qaw ?_
 refine ⟨_,Qaq (V:=.bool (QaE o (QaG x))) Tryz.results45 rfl,(Zr hs ?_)⟩
 rfl
theorem Qmb (w:World) (x:Cen) (bx:Nat) (a:Option Addr) (c:Nat) (l:List Opn) (hx:Qc9 x.dot) (hc:Qb8 w bx [(.slice a l.length c:Value)]) (hr:Rd w (.slice a l.length c) 23 (l.map oc)):Calls Tryz.prog 43 #[.agg (cec x).toArray,.pointer (some ⟨bx,0,none⟩)] w (fun e w'=>e = .returned (.bool (l.any fun o=>QaE o (QaG x)))/\Own w no w' []):=by
 refine Qai (n:=7) Tryz.func43 rfl Tryz.ntmps43 rfl ?_
 have hs:=Own.start w
 refine Qag (Qab (Qaa (Qa4 (V:=.agg (cec x).toArray) (cs:=cec x) rfl rfl hs fun b1 w2 hs=>(Qaa (Qad (V:=.bool false) rfl (Qae (Qag (Qab (Qaa (QoU (V:=.slice a l.length c) Qjg (hc.own' hs) rfl rfl (Qaa (Qc3 (cs:=[Pq b1 0]) rfl rfl (Qaa (Qat (vs:=[.slice a l.length c,.func (.func 45) #[] #[Pq b1 0]]) (V:=.bool (l.any (fun o=>QaE o (QaG x)))) QvV rfl rfl ?hc hs fun w3 hs=>?_))))))))))))))
 case hc=>exact (QpC _ a c l 45 [.pointer (some ⟨b1,0,none⟩)] QvY (fun o=>QaE o (QaG x)) (fun w1 L1 h o _=>Qlf w1 o x b1 hx ((hs.cellsf 0 rfl).own' h)) (Rd.own' hr hs))
 refine Qaa (Qad (V:=.bool (l.any (fun o=>QaE o (QaG x)))) rfl (Qae (Qaw ?_)))
 refine ⟨_,Qaq (V:=.bool (l.any (fun o=>QaE o (QaG x)))) Tryz.results43 rfl,(Zr hs ?_)⟩
 rfl
end Tt
end Go.Proofs
namespace Go.Proofs
open Go Go.Vx Go.RowKit
namespace Tt
theorem QlA (w:World) (f N:Nat) (caps:List Value) (hf:En Tryz.prog f) (hN:N*3<=140737488355328) (G:List Value->Prop) (hcall:Gives Tryz.prog f caps (okS (Value.int .u16) N) G w):Calls Tryz.prog 159 #[.slice none 0 0,.func (.func f) #[] caps.toArray] w (fun e w'=>∃ x:List Int × Option Addr × Nat,e = .returned (.slice x.2.1 x.1.length x.2.2)/\Own w no w' [row (.slice x.2.1 x.1.length x.2.2) (x.1.map (ic .u16)) 32 1]/\G (x.1.map (Value.int .u16))/\x.1.length<=N):=by
 refine Qjw (n:=13) Tryz.func159 rfl Tryz.ntmps159 rfl ?_
 have hs:=Own.start w
 refine QlT (Qab (Qaa (Qa4 (V:=.slice none 0 0) (cs:=[.slice none 0 0]) rfl rfl hs fun b1 w2 hs=>(Qaa (Qad (V:=.slice none 0 0) rfl (Qae (QqT (QlT (Qab (Qaa (Qac (V:=.func (.func f) #[] caps.toArray) rfl (Qae (Qot ?_)))))))))))))
 replace hs:=hs.more (row (.slice none 0 0) (List.map (ic .u16) []) 32 1) (Qbd _ _ _ _)
 replace hs:=hs.join 0 1 (by decide) rfl rfl
 replace hs:=hs.conv 0 rfl (R':=Qvy N b1 69 32 1 (ic .u16) (Value.int .u16) []) (fun S h=>⟨⟨([],none,0),rfl,Nat.zero_le _⟩,h⟩)
 refine Qiv (caps:=caps) (ok:=okS (Value.int .u16) N) (G:=G) rfl rfl hf hs 0 (Qvy N b1 69 32 1 (ic .u16) (Value.int .u16)) rfl ?_ hcall ?_
 ·rintro l fn dd pre x w2 S ⟨⟨d,rfl⟩,hpN⟩ hs
  refine Qab (Qaa (Qad (V:=I7 d) rfl (Qae ?_)))
  refine ⟨[],hs,?_⟩
  intro w3 hs
  obtain ⟨⟨⟨l0,a0,c0⟩,hx,hxN⟩,hs⟩:=hs.unpack 0 rfl
  replace hs:=hs.split 0 rfl
  dsimp only at hx
  have hlen:=congrArg List.length hx
  rw [QQ6] at hlen
  refine Qan (Qab (Qaa (QaQ (V:=.slice a0 l0.length c0) Qrm hs 0 rfl rfl rfl (Qaa (Qac (V:=I7 d) rfl (Qaa (QhQ (vals:=[I7 d]) (ls:=List.map (ic .u16) ([d]:List Int)) QlN rfl rfl rfl (Qbi (enc:=(ic .u16)) (fun _=>rfl) _) (QaV (Qfq .u16) _) (QQ8 rfl) hs fun b3 w4 hs=>(Qaa (Qdi (ls':=(l0++[d]).map (ic .u16)) (n:=(l0++[d]).length) QlN hs 2 rfl rfl rfl (hs.rd 3 rfl) (QaV (Qfq .u16) _) (by simp only [QQ6,QQ7,List.length_cons,List.length_nil];omega) (by simp) (by simp) fun a5 c5 w6 hs=>(Qaa (Qc0 (V:=.slice a5 ((l0++[d]).length) c5) (cs':=[.slice a5 ((l0++[d]).length) c5]) Qrm hs 0 rfl rfl rfl rfl (QQ8 rfl) rfl fun w7 hs=>(Qae ?_))))))))))))
  replace hs:=hs.join 0 2 (by decide) rfl rfl
  replace hs:=hs.conv 0 rfl (R':=Qvy N b1 69 32 1 (ic .u16) (Value.int .u16) (pre++[(Value.int .u16) d])) (fun S h=>⟨⟨(l0++[d],a5,c5),by rw [List.map_append,hx];rfl,by rw [QQ7];exact hpN⟩,h⟩)
  exact hs.take 2
 rintro xs dd w3 hG hs
 obtain ⟨⟨⟨l1,a1,c1⟩,hx,hxN⟩,hs⟩:=hs.unpack 0 rfl
 dsimp only at hx
 subst hx
 replace hs:=hs.split 0 rfl
 refine Qvf (Qag (Qab (Qaa (QaQ (V:=.slice a1 l1.length c1) Qrm hs 0 rfl rfl rfl (Qaa (Qad (V:=.slice a1 l1.length c1) rfl (Qae (Qaw (QmE (V:=.slice a1 l1.length c1) hs 2 rfl (fun w=>Qaq (V:=.slice a1 l1.length c1) Tryz.results159 rfl) fun w hs=>?_)))))))))
 exact ⟨(l1,a1,c1),rfl,hs.only 3 rfl,hG,by simpa using hxN⟩
end Tt
end Go.Proofs
namespace Go.Proofs
open Go Go.Vx Go.RowKit
namespace Tt
theorem Qjr (w:World) (f N:Nat) (caps:List Value) (hf:En Tryz.prog f) (hN:N*3<=140737488355328) (G:List Value->Prop) (hcall:Gives Tryz.prog f caps (okS (Value.int .u16) N) G w):Calls Tryz.prog 133 #[.func (.func f) #[] caps.toArray] w (fun e w'=>∃ x:List Int × Option Addr × Nat,e = .returned (.slice x.2.1 x.1.length x.2.2)/\Own w no w' [row (.slice x.2.1 x.1.length x.2.2) (x.1.map (ic .u16)) 32 1]/\G (x.1.map (Value.int .u16))/\x.1.length<=N):=by
 refine Qai (n:=5) Tryz.func133 rfl Tryz.ntmps133 rfl ?_
 have hs:=Own.start w
 refine Qag (Qab (Qaa (Qad (V:=.slice none 0 0) rfl (Qae (Qag (Qab (Qaa (Qac (V:=.func (.func f) #[] caps.toArray) rfl (Qaa (Qbm (vs:=[.slice none 0 0,.func (.func f) #[] caps.toArray]) QtW rfl rfl (QlA _ f N caps hf hN G hcall) hs fun x1 w2 hs hF3=>(Qaa (Qad (V:=.slice x1.2.1 x1.1.length x1.2.2) rfl (Qae (Qaw ?_))))))))))))))
 refine ⟨_,Qaq (V:=.slice x1.2.1 x1.1.length x1.2.2) Tryz.results133 rfl,?_⟩
 exact ⟨(x1.1,x1.2.1,x1.2.2),rfl,hs.only 0 rfl,hF3⟩
theorem Qlh (w:World) (f N:Nat) (caps:List Value) (hf:En Tryz.prog f) (hN:N*3<=140737488355328) (G:List Value->Prop) (hcall:Gives Tryz.prog f caps (okS (Value.int .u16) N) G w) (hsortU:QgC Tryz.prog 134 .u16 32):Calls Tryz.prog 84 #[.func (.func f) #[] caps.toArray] w (fun e w'=>∃ x:List Int × Option Addr × Nat,e = .returned (.slice x.2.1 x.1.length x.2.2)/\Own w no w' [row (.slice x.2.1 x.1.length x.2.2) (x.1.map (ic .u16)) 32 1]/\∃ m,G (m.map (Value.int .u16))/\x.1=Qa7 m):=by
 refine Qai (n:=9) Tryz.func84 rfl Tryz.ntmps84 rfl ?_
 have hs:=Own.start w
 refine Qag (Qab (Qaa (Qad (V:=.slice none 0 0) rfl (Qae (Qag (Qab (Qaa (Qac (V:=.func (.func f) #[] caps.toArray) rfl (Qaa (Qbm (vs:=[.func (.func f) #[] caps.toArray]) Qtx rfl rfl (Qjr _ f N caps hf hN G hcall) hs fun x1 w2 hs hF3=>(Qaa (Qad (V:=.slice x1.2.1 x1.1.length x1.2.2) rfl (Qae (Qag ?_))))))))))))))
 have hn:=hF3.2
 refine Qab (Qaa (Qac (V:=.slice x1.2.1 x1.1.length x1.2.2) rfl (Qaa (Qbr (vs:=[.slice x1.2.1 x1.1.length x1.2.2]) (V:=fun _:Unit=>.tuple #[]) (R:=row (.slice x1.2.1 x1.1.length x1.2.2) (x1.1.map (ic .u16)) 32 1) (R':=fun _=>row (.slice x1.2.1 x1.1.length x1.2.2) ((Qa7 x1.1).map (ic .u16)) 32 1) (Lo:=fun _=>[]) (F:=fun _ _=>True) Quw rfl rfl hs 0 rfl (fun S hS hlt=>(hsortU _ S _ _ _ hS hlt (by omega)).mono fun e w' ⟨he,ho⟩=>⟨(),he,ho,trivial⟩) fun _ w4 hs _=>(Qae (Qag (Qab (Qaa (Qac (V:=.slice x1.2.1 x1.1.length x1.2.2) rfl (Qaa (Qad (V:=.slice x1.2.1 x1.1.length x1.2.2) rfl (Qae (Qaw ?_)))))))))))))
 refine ⟨_,Qaq (V:=.slice x1.2.1 x1.1.length x1.2.2) Tryz.results84 rfl,?_⟩
 have hl:x1.1.length=(Qa7 x1.1).length:=(QeR _).symm
 refine ⟨(Qa7 x1.1,x1.2.1,x1.2.2),by rw [hl],?_,⟨x1.1,hF3.1,rfl⟩⟩
 have ho:=hs.only 0 rfl
 rw [hl] at ho
 exact ho
end Tt
end Go.Proofs
namespace Go.Proofs
open Go Go.Vx Go.RowKit
namespace Tt
theorem Qnx (w:World) (S:Nat->Prop) (bx r l:Nat) (lm:List (Int × Int)) (R:List Value->Res) (ok:List Value->Value->Prop) (hok:∀ (pre:List Int) (k:Int),pre.length<lm.length->k∈lm.map (·.1)->ok (pre.map (Value.int .u16)) ((Value.int .u16) k)) (hy:Qin Tryz.prog l R ok) (hR:(R []).holds w S) (hlt:∀ x,S x->x<w.heap.size) (hSb:¬S bx) (hSr:¬S r) (hc:Qb8 w bx [.map (some r)]) (hm:QiB w r (Value.int .u16) (Value.int .u32) lm):Calls Tryz.prog 148 #[.func (.yield l) #[] #[],.pointer (some ⟨bx,0,none⟩)] w (fun e w'=>∃ v xs,e = .returned v/\xs.Perm ((lm.map (·.1)).map (Value.int .u16))/\Own w S w' [R xs]):=by
 refine Qai (n:=14) Tryz.func148 rfl Tryz.ntmps148 rfl ?_
 have hs:=Own.lent hR hlt
 obtain ⟨es,clock,hm0,hE⟩:=hm
 refine Qag (Qab (Qaa (QoU (V:=.map (some r)) QtU (Qb8.own hc hs hSb) rfl rfl ?_)))
 have hat:=hs.at hm0 hSr
 refine Qaa (Qse Qid hat hs rfl fun it w1 hs=>(Qae (Qan (QaD (fun J μ J' w'=>∃ (Jo:Env) (pre:List Int) (seen:Array Nat),J'=mix ([3]++sq 6 8) Jo J/\(((left es seen).map (·.key)++pre.map (Value.int .u16)).Perm ((lm.map (·.1)).map (Value.int .u16)))/\μ=(left es seen).length/\Own w S w' [R (pre.map (Value.int .u16)),Qlj it r clock seen]) ?_ ?_))))
 ·exact ⟨_,_,[],#[],Qap (ds:=([3]++sq 6 8)) (Agr.refl _ _),(by rw [Qmu,hE.keys];simp),rfl,hs⟩
 rintro μ J' w2 ⟨Jo,pre,seen,rfl,hp,rfl,hs⟩
 refine Qag (Qab (Qaa (QtO (seen:=seen) (hs.at hm0 hSr) hE.old hs 1 rfl rfl (fun h0=>?_) (fun e3 ha w4 hs=>?_))))
 ·
  refine Qaa (QaA (V:=.bool false) rfl rfl (Qae (Qag (QbV rfl ?_))))
  refine QaJ ?_
  refine ⟨_,Qbf Tryz.results148,?_⟩
  rw [h0] at hp
  exact ⟨_,pre.map (Value.int .u16),rfl,hp,hs.only 0 rfl⟩
 obtain ⟨k,hk,hkey⟩:=Qov hE (QkJ ha)
 refine Qaa (QaA (V:=.bool true) rfl rfl (Qae (Qag (QcN rfl ?_))))
 refine Qao (Qan (Qag (Qab (Qaa (Qpm (V:=(Value.int .u16) k) (hs.at hm0 hSr) hE.inc (QkJ ha) hkey hs 1 rfl rfl (Qaa (QaA (V:=I7 k) rfl rfl (Qaa (Qad (V:=I7 k) rfl (Qae (Qag (Qab (Qaa (Qac (V:=.func (.yield l) #[] #[]) rfl (Qaa (Qac (V:=I7 k) rfl ?_))))))))))))))))
 have hst:=QnH hE ha hkey hp
 refine Qaa (QoY (R:=R) (pre:=pre.map (Value.int .u16)) (v:=(Value.int .u16) k) hy rfl rfl (hok pre k hst.2.2 hk) hs 0 rfl fun w5 hs=>(Qaa (Qbz rfl (Qae (QbV rfl ?_)))))
 refine Qao ?_
 have e1:(pre++[k]).map (Value.int .u16)=pre.map (Value.int .u16)++[(Value.int .u16) k]:=by simp
 rw [← e1] at hs
 refine ⟨_,?_,_,pre++[k],seen.push e3.born,Qap (ds:=([3]++sq 6 8)) (by repeat (first|exact Agr.refl _ _|refine Agr.upd ?_ rfl|refine Agr.mix ?_ rfl)),hst.1,rfl,hs.take 2⟩
 exact hst.2.1
theorem Qpt (w:World) (r:Nat):Calls Tryz.prog 96 #[.map (some r)] w (fun e w'=>∃ x:Nat,e = .returned (.func (.func 148) #[] #[.pointer (some ⟨x,0,none⟩)])/\Own w no w' [blk x [.map (some r)] 100]/\True):=by
 refine Qai (n:=4) Tryz.func96 rfl Tryz.ntmps96 rfl ?_
 have hs:=Own.start w
 refine Qag (Qab (Qaa (Qa4 (V:=.map (some r)) (cs:=[.map (some r)]) rfl rfl hs fun b1 w2 hs=>(Qaa (Qad (V:=.nilFunc) rfl (Qae (Qag (Qab (Qaa (Qc3 (cs:=[Pq b1 0]) rfl rfl (Qaa (Qad (V:=.func (.func 148) #[] #[Pq b1 0]) rfl (Qae (Qaw ?_))))))))))))))
 refine ⟨_,Qaq (V:=.func (.func 148) #[] #[Pq b1 0]) Tryz.results96 rfl,?_⟩
 exact ⟨b1,rfl,hs.only 0 rfl,trivial⟩
theorem QsY {w:World} {bx r N:Nat} {lm:List (Int × Int)} (hc:Qb8 w bx [.map (some r)]) (hm:QiB w r (Value.int .u16) (Value.int .u32) lm) (hN:lm.length<=N) :
  Gives Tryz.prog 148 [.pointer (some ⟨bx,0,none⟩)] (okS (Value.int .u16) N) (fun xs=>xs.Perm ((lm.map (·.1)).map (Value.int .u16))) w:=by
 rintro l w1 R S ⟨L1,hs1⟩ hlt hS hR hy
 have hb:bx<w.heap.size:=World.block_lt_of_cell? _ _ (hc 0 _ rfl)
 have hr:r<w.heap.size:=by obtain ⟨es,clock,h,_⟩:=hm;exact (Array.getElem?_eq_some_iff.1 h).1
 exact Qnx w1 S bx r l lm R (okS (Value.int .u16) N) (fun pre k hp _=>⟨⟨k,rfl⟩,by rw [QQ6];omega⟩) hy hR hlt (fun h=>hS _ h hb) (fun h=>hS _ h hr) (hc.own' hs1) (hm.own' hs1)
theorem Qmn (w:World) (r:Nat) (m:List (Int × Int)) (hm:QiB w r (Value.int .u16) (Value.int .u32) m) (hlm:m.length<=100000) (hsortU:QgC Tryz.prog 134 .u16 32):Calls Tryz.prog 50 #[.map (some r)] w (fun e w'=>∃ x:Option Addr × Nat,e = .returned (.slice x.1 (Qa7 (m.map (·.1))).length x.2)/\Own w no w' [row (.slice x.1 (Qa7 (m.map (·.1))).length x.2) ((Qa7 (m.map (·.1))).map (ic .u16)) 32 1]/\True):=by
 refine Qai (n:=6) Tryz.func50 rfl Tryz.ntmps50 rfl ?_
 have hs:=Own.start w
 refine Qag (Qab (Qaa (Qad (V:=.slice none 0 0) rfl (Qae (Qag (Qab (Qaa (Qac (V:=.map (some r)) rfl (Qaa (Qbm (vs:=[.map (some r)]) (V:=fun x:Nat=>.func (.func 148) #[] #[Pq x 0]) QvU rfl rfl (Qpt _ r) hs fun x1 w2 hs _=>(Qaa (Qbm (vs:=[.func (.func 148) #[] #[Pq x1 0]]) (V:=fun x:Option Addr × Nat=>.slice x.1 (Qa7 (m.map (·.1))).length x.2) (Lo:=fun x=>[row (.slice x.1 (Qa7 (m.map (·.1))).length x.2) ((Qa7 (m.map (·.1))).map (ic .u16)) 32 1]) (F:=fun _ _=>True) QuV rfl rfl ?hc hs fun x3 w4 hs hF5=>?_))))))))))))
 case hc=>exact ((Qlh _ 148 1000000 [.pointer (some ⟨x1,0,none⟩)] QuG (by decide) (fun xs=>xs.Perm ((m.map (·.1)).map (Value.int .u16))) (QsY (hs.cellsf 0 rfl) (QiB.own hm hs (fun h=>h)) (by omega)) hsortU).mono fun e w' ⟨y,he,ho,m0,hm0,hy⟩=>by
   have hy2:y.1=Qa7 (m.map (·.1)):=by rw [hy];exact Qmm hm0
   rw [hy2] at he ho
   exact ⟨(y.2.1,y.2.2),he,ho,trivial⟩)
 refine Qaa (Qad (V:=.slice x3.1 ((Qa7 (m.map (·.1))).length) x3.2) rfl (Qae (Qaw ?_)))
 refine ⟨_,Qaq (V:=.slice x3.1 ((Qa7 (m.map (·.1))).length) x3.2) Tryz.results50 rfl,?_⟩
 exact ⟨(x3.1,x3.2),rfl,hs.only 1 rfl,trivial⟩
end Tt
end Go.Proofs
namespace Go.Proofs
open Go Go.Vx Go.RowKit
namespace Tt
theorem Qm0 (w:World) (a:Option Addr) (c:Nat) (l:List Cen) (g:Nat) (caps:List Value) (hg:En Tryz.prog g) (p:Cen->Bool) (hp:∀ (w1:World) (L1:List Res),Own w no w1 L1->∀ x∈l,Calls Tryz.prog g ([(.agg (cec x).toArray:Value)]++caps).toArray w1 (fun e w'=>e = .returned (.bool (p x))/\Own w1 no w' [])) (hr:Rd w (.slice a l.length c) 7 (l.map cec)):Calls Tryz.prog 88 #[.slice a l.length c,.func (.func g) #[] caps.toArray] w (fun e w'=>e = .returned (.int .i64 (QeE p l))/\Own w no w' []):=by
 refine Qai (n:=19) Tryz.func88 rfl Tryz.ntmps88 rfl ?_
 have hs:=Own.start w
 have hn:=hr.sml
 refine Qag (Qab (Qaa (Qad (V:=I6 0) rfl (Qae (Qag (Qag (Qab (Qaa (Qac (V:=.slice a l.length c) rfl (Qaa (Qa3 (n:=l.length) QbC (Rd.own' hr hs) (by simp) rfl (Qaa (Qac (V:=I6 0) rfl (Qae (Qan (QaD (fun J μ J' w'=>∃ (Jo:Env) (k:Nat),J'=upd (mix ([4,5]++sq 8 11) Jo J) 8 (I6 (k:Int))/\(k<=l.length)/\(∀ j:Nat,j<k->p (gd l j)=false)/\μ=l.length-k/\Own w no w' []) ?_ ?_))))))))))))))))
 ·exact ⟨_,_,0,Qal (Qap (ds:=([4,5]++sq 8 11)) (Agr.refl _ _)) rfl,(by omega),(fun j hj=>absurd hj (Nat.not_lt_zero j)),rfl,hs⟩
 rintro μ J' w1 ⟨Jo,k,rfl,hk,hno,rfl,hs⟩
 refine Qag (Qab (Qaa (Qa2 rfl rfl (Qae (Qag (Qam (t:=decide ((k:Int)<((l.length:Nat):Int))) rfl (fun c2=>?_) (fun c2=>?_)))))))
 ·
  replace c2:=QQ1 c2
  refine Qao (Qag (Qan (Qag (Qab (Qaa (Qac (V:=I6 (k:Int)) rfl (Qaa (Qad (V:=I6 (k:Int)) rfl (Qae (Qag (Qab (Qaa (Qac (V:=.func (.func g) #[] caps.toArray) rfl (Qaa (Qac (V:=.slice a l.length c) rfl (Qaa (Qac (V:=I6 (k:Int)) rfl (Qaa (Qax QbC QaB.1 (Rd.own' hr hs) rfl rfl (by omega) (by rw [QQ6];omega) (Qaa (Qbb (j:=0) (vs:=cec (gd l k)) k QaB (Rd.own' hr hs) (Qba (by omega)) rfl rfl rfl (by omega) (Qaa (Qfo (vs:=[.agg (cec (gd l k)).toArray]) (cs:=caps) (V:=.bool (p (gd l k))) hg rfl rfl (hp _ _ hs (gd l k) (QbG (by omega))) hs fun w3 hs=>(Qae (Qam (t:=p (gd l k)) rfl (fun c4=>?_) (fun c4=>?_))))))))))))))))))))))))))
  ·
   refine Qag (Qab (Qaa (Qac (V:=I6 (k:Int)) rfl (Qaa (Qad (V:=I6 (k:Int)) rfl (Qae (Qaw ?_)))))))
   refine ⟨_,Qaq (V:=I6 (k:Int)) Tryz.results88 rfl,(Zr hs ?_)⟩
   exact congrArg (Value.int .i64) (Qi0 (by omega) hno c4).symm
  refine Qao (Qab (Qaa (QaF (a:=(k:Int)) (b:=1) (c:=(k:Int)+1) rfl rfl (QbE (by omega) (by omega)) (Qaa (Qac (V:=I6 ((k:Int)+1)) rfl (Qae ?_))))))
  refine ⟨_,?_,_,k+1,Qal (Qap (ds:=([4,5]++sq 8 11)) (by repeat (first|exact Agr.refl _ _|refine Agr.upd ?_ rfl|refine Agr.mix ?_ rfl))) rfl,(by omega),(QcO hno c4),rfl,hs.take 0⟩
  omega
 replace c2:=QQ2 c2
 refine QaJ (Qag (Qab (Qaa (Qad (V:=I6 (-1)) rfl (Qae (Qaw ?_))))))
 refine ⟨_,Qaq (V:=I6 (-1)) Tryz.results88 rfl,(Zr hs ?_)⟩
 exact congrArg (Value.int .i64) (QlV fun j hj=>hno j (by omega)).symm
end Tt
end Go.Proofs
namespace Go.Proofs
open Go Go.Vx Go.RowKit
namespace Tt
theorem Qiy (w:World) (S:Nat->Prop) (a:Option Addr) (c:Nat) (l:List Cen) (g:Nat) (caps:List Value) (hg:En Tryz.prog g) (p:Cen->Bool) (hp:∀ (w1:World) (L1:List Res),Own w S w1 L1->∀ x∈l,Calls Tryz.prog g ([(.agg (cec x).toArray:Value)]++caps).toArray w1 (fun e w'=>e = .returned (.bool (p x))/\Own w1 no w' [])) (hR:(row (.slice a l.length c) (l.map cec) 106 7).holds w S) (hlt:∀ b,S b->b<w.heap.size):Calls Tryz.prog 42 #[.slice a l.length c,.func (.func g) #[] caps.toArray] w (fun e w'=>∃ x:Unit,e = .returned (.slice a (l.filter fun x=>!p x).length c)/\Own w S w' [row (.slice a (l.filter fun x=>!p x).length c) ((l.filter fun x=>!p x).map cec) 106 7]/\True):=by
 refine Qai (n:=42) Tryz.func42 rfl Tryz.ntmps42 rfl ?_
 have hs:=Own.lent hR hlt
 have hn:=(hs.rd 0 rfl).sml
 have hlc:=(hs.rd 0 rfl).roomM
 refine Qag (Qab (Qaa (Qad (V:=.slice none 0 0) rfl (Qae (Qag (Qab (Qaa (Qac (V:=.slice a l.length c) rfl (Qaa (Qac (V:=.func (.func g) #[] caps.toArray) rfl (Qaa (Qat (vs:=[.slice a l.length c,.func (.func g) #[] caps.toArray]) (V:=I6 (QeE p l)) Qvv rfl rfl ?hc hs fun w1 hs=>?_))))))))))))
 case hc=>exact (Qm0 _ a c l g caps hg p (fun w1 L1 h=>hp w1 _ (hs.call h)) (hs.rd 0 rfl))
 refine Qaa (Qad (V:=I6 (QeE p l)) rfl (Qae (Qag (Qag ?_))))
 rcases QjZ (p:=p) (l:=l) with hk2|hk2
 ·
  obtain ⟨hf1,hfl⟩:=hk2
  refine Qab (Qaa (QaU (V:=I6 (QeE p l)) (V':=I6 (-1)) (Qac (V:=I6 (QeE p l)) rfl ⟨rfl,rfl⟩) (congrArg (Value.int .i64) hf1) (Qaa (QaU (V:=.bool (decide ((-1:Int) = -1))) (V':=.bool true) (QaZ rfl rfl ⟨rfl,rfl⟩) (congrArg Value.bool (QQ3 rfl)) (Qae (QcN rfl ?_))))))
  refine Qag (Qab (Qaa (Qac (V:=.slice a l.length c) rfl (Qaa (Qad (V:=.slice a l.length c) rfl (Qae (Qaw ?_)))))))
  refine ⟨_,Qaq (V:=.slice a l.length c) Tryz.results42 rfl,?_⟩
  rw [hfl]
  exact ⟨(),rfl,hs.take 1,trivial⟩
 obtain ⟨k0,hf1,hk0l,hpk,hft⟩:=hk2
 refine Qab (Qaa (QaU (V:=I6 (QeE p l)) (V':=I6 (k0:Int)) (Qac (V:=I6 (QeE p l)) rfl ⟨rfl,rfl⟩) (congrArg (Value.int .i64) hf1) (Qaa (QaU (V:=.bool (decide ((k0:Int) = -1))) (V':=.bool false) (QaZ rfl rfl ⟨rfl,rfl⟩) (congrArg Value.bool (QQ4 (by omega))) (Qae (QbV rfl ?_))))))
 refine Qao (Qag (Qag (Qab (Qaa (QaU (V:=I6 (QeE p l)) (V':=I6 (k0:Int)) (Qac (V:=I6 (QeE p l)) rfl ⟨rfl,rfl⟩) (congrArg (Value.int .i64) hf1) (Qaa (QaF (a:=(k0:Int)) (b:=1) (c:=((k0+1:Nat):Int)) rfl rfl (Qak (by omega) (by omega)) (Qaa (Qad (V:=I6 ((k0+1:Nat):Int)) rfl (Qae (Qan (QaD (fun J μ J' w'=>∃ (Jo:Env) (i:Nat) (j:Nat) (m:List Cen),J'=upd (upd (mix ([5,6,7]++sq 16 20) Jo J) 5 (I6 (i:Int))) 6 (I6 (j:Int))/\(i<j)/\(j<=l.length)/\(Moved p l m i j)/\μ=l.length-j/\Own w S w' [row (.slice a l.length c) (m.map cec) 106 7]) ?_ ?_))))))))))))
 ·exact ⟨_,_,k0,k0+1,l,Qal (Qal (Qap (ds:=([5,6,7]++sq 16 20)) (Agr.refl _ _)) (congrArg (Value.int .i64) hf1)) rfl,(by omega),(by omega),(QfZ hk0l hpk hft),rfl,hs⟩
 rintro μ J' w2 ⟨Jo,i,j,m,rfl,hij,hj,hmv,rfl,hs⟩
 have hml:=hmv.1
 refine Qag (Qag (Qab (Qaa (Qac (V:=I6 (j:Int)) rfl (Qaa (Qac (V:=.slice a l.length c) rfl (Qaa (Qa3 (n:=l.length) QbC (hs.rd 0 rfl) (by simp [hmv.1]) rfl (Qaa (Qa2 rfl rfl (Qae (Qam (t:=decide ((j:Int)<((l.length:Nat):Int))) rfl (fun c3=>?_) (fun c3=>?_)))))))))))))
 ·
  replace c3:=QQ1 c3
  refine Qao (Qag (Qan (Qag (Qab (Qaa (Qac (V:=.slice a l.length c) rfl (Qaa (Qac (V:=I6 (j:Int)) rfl (Qaa (Qax QbC QaB.1 (hs.rd 0 rfl) rfl rfl (by omega) (by rw [QQ6];omega) (Qaa (Qbb (j:=0) (vs:=cec (gd m j)) j QaB (hs.rd 0 rfl) (Qba (by omega)) rfl rfl rfl (by omega) (Qaa (QaK (cs:=cec (⟨0,0,0,0,(⟨0,0⟩:Dot),0⟩:Cen)) Qfz rfl hs fun b4 w5 hs=>(Qaa (Qcx (V:=.agg (cec (gd m j)).toArray) (vs:=cec (gd m j)) (cs':=cec (gd m j)) QaB.1 hs 1 rfl rfl rfl rfl rfl (QQ8 rfl) (Qbj _) (Qaz rfl) fun w6 hs=>(Qae (Qag (Qab (Qaa (Qac (V:=.func (.func g) #[] caps.toArray) rfl (Qaa (QaL (cs:=cec (gd m j)) QaB hs 1 rfl rfl rfl (Qaa (Qfo (vs:=[.agg (cec (gd m j)).toArray]) (cs:=caps) (V:=.bool (p (gd m j))) hg rfl rfl (hp _ _ hs (gd m j) (by rw [hmv.2.2 _ (Nat.le_refl _)];exact QbG (by omega))) hs fun w7 hs=>(Qaa (Qbz rfl (Qae (Qam (t:=!(p (gd m j))) rfl (fun c8=>?_) (fun c8=>?_))))))))))))))))))))))))))))))
  ·
   replace c8:=Qby c8
   refine Qag (Qab (Qaa (Qac (V:=.slice a l.length c) rfl (Qaa (Qac (V:=I6 (i:Int)) rfl (Qaa (QaL (cs:=cec (gd m j)) QaB hs 1 rfl rfl rfl (Qaa (Qax QbC QaB.1 (hs.rd 0 rfl) rfl rfl (by omega) (by rw [QQ6];omega) (Qaa (QhE (z:=gd m j) i QaB.1 hs 0 rfl rfl rfl (by first|omega|(simp only [List.length_set];omega)) rfl rfl rfl (Qbj _) fun w9 hs=>?_)))))))))))
   replace hs:Own w S w9 [row (.slice a l.length c) ((m.set i (gd m j)).map cec) 106 7,blk b4 (cec (gd m j)) 106]:=hs
   refine Qae (Qab (Qaa (Qac (V:=I6 (i:Int)) rfl (Qaa (QaF (a:=(i:Int)) (b:=1) (c:=((i+1:Nat):Int)) rfl rfl (Qak (by omega) (by omega)) (Qaa (Qad (V:=I6 ((i+1:Nat):Int)) rfl (Qae (Qab (Qaa (Qac (V:=I6 (j:Int)) rfl (Qaa (QaF (a:=(j:Int)) (b:=1) (c:=((j+1:Nat):Int)) rfl rfl (Qak (by omega) (by omega)) (Qaa (Qad (V:=I6 ((j+1:Nat):Int)) rfl (Qae ?_))))))))))))))))
   refine ⟨_,?_,_,i+1,j+1,m.set i (gd m j),Qal (Qal (Qap (ds:=([5,6,7]++sq 16 20)) (by repeat (first|exact Agr.refl _ _|refine Agr.upd ?_ rfl|refine Agr.mix ?_ rfl))) rfl) rfl,(by omega),(by omega),(Qg3 hmv (by omega) (by omega) c8),rfl,hs.take 1⟩
   omega
  replace c8:=Qbu c8
  refine Qao (Qab (Qaa (Qac (V:=I6 (j:Int)) rfl (Qaa (QaF (a:=(j:Int)) (b:=1) (c:=((j+1:Nat):Int)) rfl rfl (Qak (by omega) (by omega)) (Qaa (Qad (V:=I6 ((j+1:Nat):Int)) rfl (Qae ?_))))))))
  refine ⟨_,?_,_,i,j+1,m,Qal (Qal (Qap (ds:=([5,6,7]++sq 16 20)) (by repeat (first|exact Agr.refl _ _|refine Agr.upd ?_ rfl|refine Agr.mix ?_ rfl))) rfl) rfl,(by omega),(by omega),(QgV hmv (by omega) c8),rfl,hs.take 1⟩
  omega
 replace c3:=QQ2 c3
 refine QaJ (Qag (Qab (Qaa (Qac (V:=.slice a l.length c) rfl (Qaa (Qac (V:=I6 (i:Int)) rfl (Qaa (QkQ (l:=i) (h:=l.length) (m:=c) (n':=(m.drop i).length) QcW QaB.1 (hs.rd 0 rfl) rfl (.inr ⟨_,_,rfl,rfl⟩) (.inl ⟨rfl,rfl⟩) (.inl ⟨rfl,rfl⟩) (by omega) (by omega) (Nat.le_trans (show l.length<=m.length by omega) (Rd.roomM (hs.rd 0 rfl))) (Nat.le_refl _) (by simp only [List.length_take,List.length_drop]<;>omega) ?_))))))))
 refine Qaa (QjS QeL hs 0 rfl rfl (by rw [QQ6]<;>omega) (by simp only [QQ6,List.length_drop]<;>omega) (by intro v hv;have e:=Qmx hv Qfz;subst e;exact (Qbj _)) fun w10 hs=>(Qae (Qag (Qab (Qaa (Qac (V:=.slice a l.length c) rfl (Qaa (Qac (V:=I6 (i:Int)) rfl (Qaa (QdU (l:=0) (h:=i) (n':=i) QcW QaB.1 (by omega) rfl (.inl ⟨rfl,rfl⟩) (.inr ⟨_,_,rfl,rfl⟩) (by omega) (by omega) (by omega) (Qaa (Qad (V:=.slice (sla a 0 c 7) i (c-0)) rfl (Qae (Qaw ?_))))))))))))))
 refine ⟨_,Qaq (V:=.slice (sla a 0 c 7) i (c-0)) Tryz.results42 rfl,?_⟩
 have he:=Qh3 hmv (by omega)
 have hil:i=(l.filter fun x=>!p x).length:=by rw [← he,List.length_take,hmv.1];omega
 replace hs:=hs.take 1
 simp only [List.set_cons_zero,List.take_succ_cons,List.take_zero,← List.map_take,he] at hs
 rw [← hil]
 refine ⟨(),?_,hs,trivial⟩
 rw [Qe1,Nat.sub_zero]
end Tt
end Go.Proofs
namespace Go.Proofs
open Go Go.Vx Go.RowKit
namespace Tt
theorem Qd0 (w:World) (p:Pst) (a1:Option Addr) (c1:Nat) (a2:Option Addr) (c2:Nat) (a3:Option Addr) (c3:Nat) (cut:Vec) (hcut:QbM cut) (hsortE:QgH Tryz.prog 48 49 cec 106 7 QkG) (hsortU:QgC Tryz.prog 134 .u16 32) (hok:Qdq p) (hle:p.base.ents.length<=400) (hlt:p.base.ticks.length<=400) (hlo:p.ops.length<=400) (hr1:Rd w (.slice a1 p.base.ents.length c1) 7 (p.base.ents.map cec)) (hr2:Rd w (.slice a2 p.base.ticks.length c2) 2 (p.base.ticks.map lsc)) (hr3:Rd w (.slice a3 p.ops.length c3) 23 (p.ops.map oc)):Calls Tryz.prog 12 #[.agg (((vc p.base.known)++[(.slice a1 p.base.ents.length c1:Value),(.slice a2 p.base.ticks.length c2:Value) ])++[(.slice a3 p.ops.length c3:Value) ]++(vc p.known)).toArray,.agg (vc cut).toArray] w (fun e w'=>∃ x:(Option Addr × Nat) × (Option Addr × Nat),e = .returned (.tuple #[.agg (vc (Qah p cut).known++[(.slice x.1.1 (Qah p cut).ents.length x.1.2:Value),(.slice x.2.1 (Qah p cut).ticks.length x.2.2:Value)]).toArray,.int .i64 (Qbh p cut)])/\Own w no w' [row (.slice x.1.1 (Qah p cut).ents.length x.1.2) ((Qah p cut).ents.map cec) 106 7,row (.slice x.2.1 (Qah p cut).ticks.length x.2.2) ((Qah p cut).ticks.map lsc) 102 2]/\True):=by
 refine Qai (n:=126) Tryz.func12 rfl Tryz.ntmps12 rfl ?_
 have hs:=Own.start w
 have ⟨hokb,hoko,hokk⟩:=hok
 have hn1:=hr1.sml
 have hn2:=hr2.sml
 have hn3:=hr3.sml
 refine Qag (Qab (Qaa (Qa4 (V:=.agg (((vc p.base.known)++[(.slice a1 p.base.ents.length c1:Value),(.slice a2 p.base.ticks.length c2:Value) ])++[(.slice a3 p.ops.length c3:Value) ]++(vc p.known)).toArray) (cs:=((vc p.base.known)++[(.slice a1 p.base.ents.length c1:Value),(.slice a2 p.base.ticks.length c2:Value) ])++[(.slice a3 p.ops.length c3:Value) ]++(vc p.known)) rfl rfl hs fun b1 w2 hs=>(Qaa (Qa4 (V:=.agg (vc cut).toArray) (cs:=vc cut) rfl rfl hs fun b3 w4 hs=>(Qaa (QaK (cs:=(vc vzero)++[(.slice none 0 0:Value),(.slice none 0 0:Value) ]) QfB rfl hs fun b5 w6 hs=>(Qaa (Qad (V:=I6 0) rfl (Qae (Qag (Qag (Qab (Qaa (QaL (cs:=((vc p.base.known)++[(.slice a1 p.base.ents.length c1:Value),(.slice a2 p.base.ticks.length c2:Value) ])++[(.slice a3 p.ops.length c3:Value) ]++(vc p.known)) QcU hs 0 rfl rfl rfl (Qaa (QaL (cs:=vc cut) Qbk hs 1 rfl rfl rfl (Qaa (Qat (vs:=[.agg (((vc p.base.known)++[(.slice a1 p.base.ents.length c1:Value),(.slice a2 p.base.ticks.length c2:Value) ])++[(.slice a3 p.ops.length c3:Value) ]++(vc p.known)).toArray,.agg (vc cut).toArray]) (V:=I6 (Qbh p cut)) Qtr rfl rfl ?hc hs fun w7 hs=>?_)))))))))))))))))))
 case hc=>exact (QnR _ p a1 c1 a2 c2 a3 c3 cut hcut hok hle hlt hlo (Rd.own' hr1 hs) (Rd.own' hr2 hs) (Rd.own' hr3 hs))
 refine Qaa (Qad (V:=I6 (Qbh p cut)) rfl (Qae (Qag (Qab (Qaa (Qac (V:=I6 (Qbh p cut)) rfl (Qaa (Qcv rfl rfl (Qae (Qam (t:=!decide (Qbh p cut=0)) rfl (fun c8=>?_) (fun c8=>?_)))))))))))
 ·
  replace c8:=Qby c8
  replace c8:=QQ2 c8
  refine Qag (Qab (Qaa (QcC (vs:=[]) (cs:=(vc vzero)++[(.slice none 0 0:Value),(.slice none 0 0:Value) ]) [vc vzero,[(.slice none 0 0:Value)],[(.slice none 0 0:Value)]] [vc vzero,[(.slice none 0 0:Value)],[(.slice none 0 0:Value)]] Qmz rfl (rfl) rfl rfl (Qaa (Qac (V:=I6 (Qbh p cut)) rfl (Qaa (Qcx (V:=.agg ((vc vzero)++[(.slice none 0 0:Value),(.slice none 0 0:Value) ]).toArray) (vs:=(vc vzero)++[(.slice none 0 0:Value),(.slice none 0 0:Value) ]) (cs':=(vc vzero)++[(.slice none 0 0:Value),(.slice none 0 0:Value) ]) QbU.1 hs 2 rfl rfl rfl rfl rfl (QQ8 rfl) (Qbl (QbO _) (Qau rfl (Qau rfl Qa1))) (Qaz rfl) fun w9 hs=>?_)))))))
  replace hs:Own w no w9 [blk b1 (((vc p.base.known)++[(.slice a1 p.base.ents.length c1:Value),(.slice a2 p.base.ticks.length c2:Value) ])++[(.slice a3 p.ops.length c3:Value) ]++(vc p.known)) 43,blk b3 (vc cut) 24,blk b5 ((vc vzero)++[(.slice none 0 0:Value),(.slice none 0 0:Value) ]) 38]:=hs
  refine Qaa (Qad (V:=I6 (Qbh p cut)) rfl (Qae (Qaw ?_)))
  refine ⟨_,Qcm (cs:=(vc vzero)++[(.slice none 0 0:Value),(.slice none 0 0:Value) ]) (V:=I6 (Qbh p cut)) Tryz.results12 QbU hs 2 rfl rfl rfl rfl,?_⟩
  rw [QlH c8]
  exact ⟨((none,0),(none,0)),rfl,((hs.take 0).more _ (Qbd _ _ 106 7)).more _ (Qbd _ _ 102 2),trivial⟩
 replace c8:=Qbu c8
 replace c8:=QQ1 c8
 refine Qao (Qag (Qab (Qaa (QaK (cs:=[.slice none 0 0]) Qu4 rfl hs fun b10 w11 hs=>?_))))
 replace hs:Own w no w11 [blk b1 (((vc p.base.known)++[(.slice a1 p.base.ents.length c1:Value),(.slice a2 p.base.ticks.length c2:Value) ])++[(.slice a3 p.ops.length c3:Value) ]++(vc p.known)) 43,blk b3 (vc cut) 24,blk b5 ((vc vzero)++[(.slice none 0 0:Value),(.slice none 0 0:Value) ]) 38,blk b10 [.slice none 0 0] 29]:=hs
 refine Qae (Qag (Qab (Qaa (Qgw rfl hs (Value.int .u16) (Value.int .u32) fun mr12 w13 hs=>(Qaa (Qad (V:=.map (some mr12)) rfl (Qae (Qag (Qag (Qab (Qaa (Qaf Qfa rfl (Qaa (Qaf QcI rfl (Qaa (QaQ (V:=.slice a2 p.base.ticks.length c2) Qfi hs 0 rfl rfl rfl (Qaa (Qa3 (n:=p.base.ticks.length) Qem (Rd.own' hr2 hs) (by simp) rfl (Qaa (Qac (V:=I6 0) rfl (Qae (Qan ?_))))))))))))))))))))))
 have hr0:=(QdX c8).1
 obtain ⟨hopsC,hrb⟩:=Qc4 hr0
 refine QaD (fun J μ J' w'=>∃ (Jo:Env) (k:Nat) (tm:List (Int × Int)),J'=upd (mix ([10]++sq 29 10) Jo J) 29 (I6 (k:Int))/\(k<=p.base.ticks.length)/\(tm=tk0 (p.base.ticks.take k))/\μ=p.base.ticks.length-k/\Own w no w' [blk b1 (((vc p.base.known)++[(.slice a1 p.base.ents.length c1:Value),(.slice a2 p.base.ticks.length c2:Value) ])++[(.slice a3 p.ops.length c3:Value) ]++(vc p.known)) 43,blk b3 (vc cut) 24,blk b5 ((vc vzero)++[(.slice none 0 0:Value),(.slice none 0 0:Value) ]) 38,blk b10 [.slice none 0 0] 29,QgF mr12 (Value.int .u16) (Value.int .u32) tm]) ?_ ?_
 ·exact ⟨_,_,0,[],Qal (Qap (ds:=([10]++sq 29 10)) (Agr.refl _ _)) rfl,(by omega),rfl,rfl,hs⟩
 rintro μ J' w14 ⟨Jo,k,tm,rfl,hk,htm,rfl,hs⟩
 refine Qag (Qab (Qaa (Qa2 rfl rfl (Qae (Qag (Qam (t:=decide ((k:Int)<((p.base.ticks.length:Nat):Int))) rfl (fun c15=>?_) (fun c15=>?_)))))))
 ·
  replace c15:=QQ1 c15
  refine Qao (Qag (Qan (Qag (Qab (Qaa (Qax Qem QbP.1 (Rd.own' hr2 hs) rfl rfl (by omega) (by rw [QQ6];omega) (Qaa (Qbb (j:=0) (vs:=lsc (gd p.base.ticks k)) k QbP (Rd.own' hr2 hs) (Qba (by omega)) rfl rfl rfl (by omega) (Qaa (QaK (cs:=lsc (⟨0,0⟩:Lst)) QkM rfl hs fun b16 w17 hs=>(Qaa (Qcx (V:=.agg (lsc (gd p.base.ticks k)).toArray) (vs:=lsc (gd p.base.ticks k)) (cs':=lsc (gd p.base.ticks k)) QbP.1 hs 5 rfl rfl rfl rfl rfl (QQ8 rfl) (Qcf _) (Qaz rfl) fun w18 hs=>(Qae (Qab (Qaa (Qac (V:=.map (some mr12)) rfl (Qaa (Qaf Qec rfl (Qaa (QaQ (V:=I7 ((gd p.base.ticks k).cart)) Qar hs 5 rfl rfl rfl (Qaa (Qaf Qed rfl (Qaa (QaQ (V:=.int .u32 ((gd p.base.ticks k).tick)) QaX hs 5 rfl rfl rfl (Qaa (QfK (k:=(gd p.base.ticks k).cart) (v:=(gd p.base.ticks k).tick) Qid Qor hs 4 rfl rfl rfl rfl fun w19 hs=>?_))))))))))))))))))))))))))
  replace hs:Own w no w19 [blk b1 (((vc p.base.known)++[(.slice a1 p.base.ents.length c1:Value),(.slice a2 p.base.ticks.length c2:Value) ])++[(.slice a3 p.ops.length c3:Value) ]++(vc p.known)) 43,blk b3 (vc cut) 24,blk b5 ((vc vzero)++[(.slice none 0 0:Value),(.slice none 0 0:Value) ]) 38,blk b10 [.slice none 0 0] 29,QgF mr12 (Value.int .u16) (Value.int .u32) (mput ((gd p.base.ticks k).cart) ((gd p.base.ticks k).tick) tm),blk b16 (lsc (gd p.base.ticks k)) 102]:=hs
  refine Qae (Qab (Qaa (QaF (a:=(k:Int)) (b:=1) (c:=((k+1:Nat):Int)) rfl rfl (Qak (by omega) (by omega)) (Qaa (Qac (V:=I6 ((k+1:Nat):Int)) rfl (Qae ?_))))))
  refine ⟨_,?_,_,k+1,mput ((gd p.base.ticks k).cart) ((gd p.base.ticks k).tick) tm,Qal (Qap (ds:=([10]++sq 29 10)) (by repeat (first|exact Agr.refl _ _|refine Agr.upd ?_ rfl|refine Agr.mix ?_ rfl))) rfl,(by omega),(by rw [Qox (by omega),← htm]),rfl,hs.take 5⟩
  omega
 replace c15:=QQ2 c15
 refine QaJ (Qag (Qab (Qaa (Qaf Qfa rfl (Qaa (Qaf Qdb rfl (Qaa (QaQ (V:=.slice a1 p.base.ents.length c1) Qgf hs 0 rfl rfl rfl (Qaa (Qbm (vs:=[.slice a1 p.base.ents.length c1]) (V:=fun x:Option Addr × Nat=>.slice x.1 (p.base.ents).length x.2) QtS rfl rfl (QiC _ a1 c1 p.base.ents (by omega) (Rd.own' hr1 hs)) hs fun x20 w21 hs _=>(Qaa (Qad (V:=.slice x20.1 ((p.base.ents).length) x20.2) rfl (Qae (Qag (Qag (Qab (Qaa (Qaf Qhu rfl (Qaa (QaQ (V:=.slice a3 p.ops.length c3) Qjg hs 0 rfl rfl rfl (Qaa (Qa3 (n:=p.ops.length) Qco (Rd.own' hr3 hs) (by simp) rfl (Qaa (Qac (V:=I6 0) rfl (Qae (Qan ?_))))))))))))))))))))))))))
 have htm0:tm=tk0 p.base.ticks:=by rw [htm,Qcz (by omega)]
 replace hs:=hs.more (row (.slice none 0 0) (List.map oc []) 98 23) (Qbd _ _ _ _)
 refine QaD (fun J μ J' w'=>∃ (Jo:Env) (k2:Nat) (a8:Option Addr) (cb8:Nat) (l8:List Opn) (a7:Option Addr) (cb7:Nat) (L7:List Cen) (tm2:List (Int × Int)),J'=upd (upd (mix ([11,13]++sq 46 53) Jo J) 46 (I6 (k2:Int))) 11 (.slice a7 L7.length cb7)/\(k2<=p.ops.length)/\(l8=QaC (p.ops.take k2) cut)/\(L7=Qb6 p.base.ents l8)/\(tm2=tkM (tk0 p.base.ticks) l8)/\(L7.length<=p.base.ents.length+k2)/\(l8.length<=k2)/\μ=p.ops.length-k2/\Own w no w' [blk b1 (((vc p.base.known)++[(.slice a1 p.base.ents.length c1:Value),(.slice a2 p.base.ticks.length c2:Value) ])++[(.slice a3 p.ops.length c3:Value) ]++(vc p.known)) 43,blk b3 (vc cut) 24,blk b5 ((vc vzero)++[(.slice none 0 0:Value),(.slice none 0 0:Value) ]) 38,blk b10 [.slice a8 l8.length cb8] 29,QgF mr12 (Value.int .u16) (Value.int .u32) tm2,row (.slice a7 L7.length cb7) (L7.map cec) 106 7,row (.slice a8 l8.length cb8) (l8.map oc) 98 23]) ?_ ?_
 ·exact ⟨_,_,0,none,0,[],x20.1,x20.2,p.base.ents,tm,Qal (Qal (Qap (ds:=([11,13]++sq 46 53)) (Agr.refl _ _)) rfl) rfl,(by omega),rfl,(by simp [Qb6]),(by rw [htm0];rfl),(by omega),(Nat.le_refl _),rfl,hs⟩
 rintro μ J' w22 ⟨Jo,k2,a8,cb8,l8,a7,cb7,L7,tm2,rfl,hk2,hl8,hL7,htm2,hn7,hn8,rfl,hs⟩
 refine Qag (Qab (Qaa (Qa2 rfl rfl (Qae (Qag (Qam (t:=decide ((k2:Int)<((p.ops.length:Nat):Int))) rfl (fun c23=>?_) (fun c23=>?_)))))))
 ·
  replace c23:=QQ1 c23
  refine Qao (Qag (Qan (Qag (Qab (Qaa (Qax Qco QbB.1 (Rd.own' hr3 hs) rfl rfl (by omega) (by rw [QQ6];omega) (Qaa (Qbb (j:=0) (vs:=oc (gd p.ops k2)) k2 QbB (Rd.own' hr3 hs) (Qba (by omega)) rfl rfl rfl (by omega) (Qaa (QaK (cs:=oc (⟨(⟨0,0⟩:Dot),0,0,0,0,0,vzero⟩:Opn)) QiM rfl hs fun b24 w25 hs=>(Qaa (Qcx (V:=.agg (oc (gd p.ops k2)).toArray) (vs:=oc (gd p.ops k2)) (cs':=oc (gd p.ops k2)) QbB.1 hs 7 rfl rfl rfl rfl rfl (QQ8 rfl) (Qc7 _) (Qaz rfl) fun w26 hs=>?_))))))))))))
  replace hs:Own w no w26 [blk b1 (((vc p.base.known)++[(.slice a1 p.base.ents.length c1:Value),(.slice a2 p.base.ticks.length c2:Value) ])++[(.slice a3 p.ops.length c3:Value) ]++(vc p.known)) 43,blk b3 (vc cut) 24,blk b5 ((vc vzero)++[(.slice none 0 0:Value),(.slice none 0 0:Value) ]) 38,blk b10 [.slice a8 l8.length cb8] 29,QgF mr12 (Value.int .u16) (Value.int .u32) tm2,row (.slice a7 L7.length cb7) (L7.map cec) 106 7,row (.slice a8 l8.length cb8) (l8.map oc) 98 23,blk b24 (oc (gd p.ops k2)) 98]:=hs
  refine Qae (Qag (Qag ?_))
  have hOk:=hoko _ (QbG (l:=p.ops) (i:=k2) (by omega))
  have hdk:=hOk.1
  have hxk:=hOk.2.2.2.2.2.2
  refine Qab (Qaa (QaL (cs:=vc cut) Qbk hs 1 rfl rfl rfl (Qaa (Qaf Qbp rfl (Qaa (QbY (vs:=dc ((gd p.ops k2).dot)) QcL hs 7 rfl rfl rfl rfl (Qaa (Qat (vs:=[.agg (vc cut).toArray,.agg (dc ((gd p.ops k2).dot)).toArray]) (V:=.bool (Qbv cut ((gd p.ops k2).dot))) QlF rfl rfl ?hc hs fun w27 hs=>?_))))))))
  case hc=>exact (QgA _ cut ((gd p.ops k2).dot) (by first|assumption|exact QcP (by omega) (by omega) (by omega) (by omega)))
  refine Qaa (Qbz rfl (Qae (Qam (t:=!(Qbv cut ((gd p.ops k2).dot))) rfl (fun c28=>?_) (fun c28=>?_))))
  ·
   replace c28:=Qby c28
   refine QaJ (Qab (Qaa (QaF (a:=(k2:Int)) (b:=1) (c:=((k2+1:Nat):Int)) rfl rfl (Qak (by omega) (by omega)) (Qaa (Qac (V:=I6 ((k2+1:Nat):Int)) rfl (Qae ?_))))))
   refine ⟨_,?_,_,k2+1,a8,cb8,l8,a7,cb7,L7,tm2,Qal (Qal (Qap (ds:=([11,13]++sq 46 53)) (by repeat (first|exact Agr.refl _ _|refine Agr.upd ?_ rfl|refine Agr.mix ?_ rfl))) rfl) rfl,(by omega),(QhO hl8 (by omega) c28),hL7,htm2,(by omega),(by omega),rfl,hs.take 7⟩
   omega
  replace c28:=Qbu c28
  refine Qao (Qag (Qab (Qaa (QaQ (V:=.slice a8 l8.length cb8) Qjg hs 3 rfl rfl rfl (Qaa (QaL (cs:=oc (gd p.ops k2)) QbB hs 7 rfl rfl rfl (Qaa (QhQ (vals:=[.agg (oc (gd p.ops k2)).toArray]) (ls:=List.map oc ([gd p.ops k2]:List Opn)) Qi3 rfl rfl rfl (Qbi (enc:=oc) (fun _=>rfl) _) (QaV Qc7 _) (QQ8 rfl) hs fun b29 w30 hs=>(Qaa (Qdi (ls':=(l8++[gd p.ops k2]).map oc) (n:=(l8++[gd p.ops k2]).length) Qi3 hs 6 rfl rfl rfl (hs.rd 8 rfl) (QaV Qc7 _) (by simp only [QQ6,QQ7,List.length_cons,List.length_nil];omega) (by simp) (by simp) fun a31 c31 w32 hs=>(Qaa (Qc0 (V:=.slice a31 ((l8++[gd p.ops k2]).length) c31) (cs':=[.slice a31 ((l8++[gd p.ops k2]).length) c31]) Qjg hs 3 rfl rfl rfl rfl (QQ8 rfl) rfl fun w33 hs=>(Qae (Qag (Qab (Qaa (Qac (V:=.map (some mr12)) rfl (Qaa (Qaf QeC rfl (Qaa (QaQ (V:=I7 ((gd p.ops k2).cart)) Qar hs 7 rfl rfl rfl (Qaa (Qac (V:=.map (some mr12)) rfl (Qaa (Qaf QeC rfl (Qaa (QaQ (V:=I7 ((gd p.ops k2).cart)) Qar hs 7 rfl rfl rfl (Qaa (QiH (k:=(gd p.ops k2).cart) (z:=0) Qid Qor QtT (hs.mapf 4 rfl) rfl rfl (Qaa (Qaf QhP rfl (Qaa (QaQ (V:=.int .u32 ((gd p.ops k2).tick)) QaX hs 7 rfl rfl rfl (Qaa (Qo4 rfl rfl (Qaa (QfK (k:=(gd p.ops k2).cart) (v:=max ((mget ((gd p.ops k2).cart) tm2).getD 0) ((gd p.ops k2).tick)) Qid Qor hs 4 rfl rfl rfl rfl fun w34 hs=>?_)))))))))))))))))))))))))))))))))))))
  replace hs:Own w no w34 [blk b1 (((vc p.base.known)++[(.slice a1 p.base.ents.length c1:Value),(.slice a2 p.base.ticks.length c2:Value) ])++[(.slice a3 p.ops.length c3:Value) ]++(vc p.known)) 43,blk b3 (vc cut) 24,blk b5 ((vc vzero)++[(.slice none 0 0:Value),(.slice none 0 0:Value) ]) 38,blk b10 [.slice a31 ((l8++[gd p.ops k2]).length) c31] 29,QgF mr12 (Value.int .u16) (Value.int .u32) (mput ((gd p.ops k2).cart) (max ((mget ((gd p.ops k2).cart) tm2).getD 0) ((gd p.ops k2).tick)) tm2),row (.slice a7 L7.length cb7) (L7.map cec) 106 7,row (.slice a31 ((l8++[gd p.ops k2]).length) c31) ((l8++[gd p.ops k2]).map oc) 98 23,blk b24 (oc (gd p.ops k2)) 98,row (.slice (some ⟨b29,0,none⟩) 1 1) ([gd p.ops k2].map oc) 98 23]:=hs
  refine Qae (Qag (Qbw [some 69,some 70,some 71,some 72,some 73,some 74,some 75,some 76,some 77,some 78,some 79,some 80,some 81] [] [0,1,3,7,15,31,63,127,255,511,1023,2047,4095] [pv (Pq b24 (0+2)),pv (.int .u8 ((gd p.ops k2).kind)),pv (.bool (decide ((gd p.ops k2).kind=1))),pv (.bool (decide ((gd p.ops k2).kind=1))),pg ((decide ((gd p.ops k2).kind=1)) == false) (Pq b24 (0+2)),pg ((decide ((gd p.ops k2).kind=1)) == false) (.int .u8 ((gd p.ops k2).kind)),pg ((decide ((gd p.ops k2).kind=1)) == false) (.bool (decide ((gd p.ops k2).kind=2))),pv (.bool ((decide ((gd p.ops k2).kind=1))||(decide ((gd p.ops k2).kind=2)))),pv (.bool ((decide ((gd p.ops k2).kind=1))||(decide ((gd p.ops k2).kind=2)))),pg (((decide ((gd p.ops k2).kind=1))||(decide ((gd p.ops k2).kind=2))) == false) (Pq b24 (0+2)),pg (((decide ((gd p.ops k2).kind=1))||(decide ((gd p.ops k2).kind=2))) == false) (.int .u8 ((gd p.ops k2).kind)),pg (((decide ((gd p.ops k2).kind=1))||(decide ((gd p.ops k2).kind=2))) == false) (.bool (decide ((gd p.ops k2).kind=4))),pv (.bool (QbA (gd p.ops k2)))] (fun _ _=>_) [12] (by kernel_rfl) hs ⟨?_,?_,?_,?_,?_,?_,?_,?_,?_,?_,?_,?_,?_,trivial⟩ ?_))
  ·exact oa [] fun D J w hs=>Qaf Qcg rfl (Zz hs)
  ·exact oa [0] fun D J w hs=>QaQ (V:=.int .u8 ((gd p.ops k2).kind)) Qdw hs 7 rfl rfl rfl (Zz hs)
  ·exact oa [1] fun D J w hs=>QaZ rfl rfl (Zz hs)
  ·exact oa [2] fun D J w hs=>Qac (V:=.bool (decide ((gd p.ops k2).kind=1))) rfl (Zz hs)
  ·exact og [3] fun D J w hG hs=>Qaf Qcg rfl (Zz hs)
  ·exact oy [3,4] [4] fun D J w hG hs=>QaQ (V:=.int .u8 ((gd p.ops k2).kind)) Qdw hs 7 rfl rfl rfl (Zz hs)
  ·exact oy [3,5] [5] fun D J w hG hs=>QaZ rfl rfl (Zz hs)
  ·exact oa [3,6] fun D J w hs=>Qcs (h':=decide ((gd p.ops k2).kind=2)) rfl rfl rfl (Zz hs)
  ·exact oa [7] fun D J w hs=>Qac (V:=.bool ((decide ((gd p.ops k2).kind=1))||(decide ((gd p.ops k2).kind=2)))) rfl (Zz hs)
  ·exact og [8] fun D J w hG hs=>Qaf Qcg rfl (Zz hs)
  ·exact oy [8,9] [9] fun D J w hG hs=>QaQ (V:=.int .u8 ((gd p.ops k2).kind)) Qdw hs 7 rfl rfl rfl (Zz hs)
  ·exact oy [8,10] [10] fun D J w hG hs=>QaZ rfl rfl (Zz hs)
  ·exact oa [8,11] fun D J w hs=>QaU (V:=.bool (((decide ((gd p.ops k2).kind=1))||(decide ((gd p.ops k2).kind=2)))||(decide ((gd p.ops k2).kind=4)))) (V':=.bool (QbA (gd p.ops k2))) (Qcs (h':=decide ((gd p.ops k2).kind=4)) rfl rfl rfl ⟨rfl,rfl⟩) (congrArg Value.bool (Qnt _)) (Zz hs)
  rintro J1 w35 J2 hJ hs
  replace hJ:J2=upd (mix (sq 69 13) J1 _) 81 (.bool (QbA (gd p.ops k2))):=hJ
  subst hJ
  refine Qam (t:=QbA (gd p.ops k2)) rfl (fun c36=>?_) (fun c36=>?_)
  ·
   replace hs:=hs.more emp trivial
   refine QaH HM [some 82,some 83,some 84,some 85,some 86,some 87,some 88,some 89,some 90,some 91,some 92,some 93,some 94,some 95,some 96,some 97,some 11] [[],[],[],[],[],[],[],[],[],[],[],[],[],[],[96],[97],[97]] [0,0,2,0,8,0,32,0,128,0,512,0,2048,8190,16382,32767,65535] [pv (.slice a7 L7.length cb7),pv (Pq b24 (0+3)),pv (I7 ((gd p.ops k2).cart)),pv (Pq b24 (0+4)),pv (I7 ((gd p.ops k2).item)),pv (Pq b24 (0+5)),pv (I7 ((gd p.ops k2).qty)),pv (Pq b24 (0+2)),pv (.int .u8 ((gd p.ops k2).kind)),pv (Pq b24 (0+0)),pv (.agg (dc ((gd p.ops k2).dot)).toArray),pv (.agg (oc (gd p.ops k2)).toArray),pv (.int .u64 (QbH (gd p.ops k2))),pv (.agg (cec (⟨(gd p.ops k2).cart,(gd p.ops k2).item,(gd p.ops k2).qty,(gd p.ops k2).kind,(gd p.ops k2).dot,QbH (gd p.ops k2)⟩:Cen)).toArray),(true,fun J=>.slice (some ⟨(bOf (J 96)),0,none⟩) 1 1),(true,fun J=>.slice (aOf (J 97)) ((L7++[(⟨(gd p.ops k2).cart,(gd p.ops k2).item,(gd p.ops k2).qty,(gd p.ops k2).kind,(gd p.ops k2).dot,QbH (gd p.ops k2)⟩:Cen)]).length) (cOf (J 97))),(true,fun J=>.slice (aOf (J 97)) ((L7++[(⟨(gd p.ops k2).cart,(gd p.ops k2).item,(gd p.ops k2).qty,(gd p.ops k2).kind,(gd p.ops k2).dot,QbH (gd p.ops k2)⟩:Cen)]).length) (cOf (J 97)))] (fun D J=>[blk b1 (((vc p.base.known)++[(.slice a1 p.base.ents.length c1:Value),(.slice a2 p.base.ticks.length c2:Value) ])++[(.slice a3 p.ops.length c3:Value) ]++(vc p.known)) 43,blk b3 (vc cut) 24,blk b5 ((vc vzero)++[(.slice none 0 0:Value),(.slice none 0 0:Value) ]) 38,blk b10 [.slice a31 ((l8++[gd p.ops k2]).length) c31] 29,QgF mr12 (Value.int .u16) (Value.int .u32) (mput ((gd p.ops k2).cart) (max ((mget ((gd p.ops k2).cart) tm2).getD 0) ((gd p.ops k2).tick)) tm2),cond (D 15) (row (.slice (aOf (J 97)) ((L7++[(⟨(gd p.ops k2).cart,(gd p.ops k2).item,(gd p.ops k2).qty,(gd p.ops k2).kind,(gd p.ops k2).dot,QbH (gd p.ops k2)⟩:Cen)]).length) (cOf (J 97))) ((L7++[(⟨(gd p.ops k2).cart,(gd p.ops k2).item,(gd p.ops k2).qty,(gd p.ops k2).kind,(gd p.ops k2).dot,QbH (gd p.ops k2)⟩:Cen)]).map cec) 106 7) (row (.slice a7 L7.length cb7) (L7.map cec) 106 7),row (.slice a31 ((l8++[gd p.ops k2]).length) c31) ((l8++[gd p.ops k2]).map oc) 98 23,blk b24 (oc (gd p.ops k2)) 98,row (.slice (some ⟨b29,0,none⟩) 1 1) ([gd p.ops k2].map oc) 98 23,cond (D 14) (row (.slice (some ⟨(bOf (J 96)),0,none⟩) 1 1) ([(⟨(gd p.ops k2).cart,(gd p.ops k2).item,(gd p.ops k2).qty,(gd p.ops k2).kind,(gd p.ops k2).dot,QbH (gd p.ops k2)⟩:Cen)].map cec) 106 7) (emp)]) [16] (by kernel_rfl) hs ⟨?_,?_,?_,?_,?_,?_,?_,?_,?_,?_,?_,?_,?_,?_,?_,?_,?_,trivial⟩ ?_
   ·exact ob [] [16] rfl rfl fun D J w hs=>Qac (V:=.slice a7 L7.length cb7) rfl (Zz hs)
   ·exact oa [] fun D J w hs=>Qaf QeC rfl (Zz hs)
   ·exact oa [1] fun D J w hs=>QaQ (V:=.int .u16 ((gd p.ops k2).cart)) Qar hs 7 rfl rfl rfl (Zz hs)
   ·exact oa [] fun D J w hs=>Qaf Qdr rfl (Zz hs)
   ·exact oa [3] fun D J w hs=>QaQ (V:=.int .u16 ((gd p.ops k2).item)) Qar hs 7 rfl rfl rfl (Zz hs)
   ·exact oa [] fun D J w hs=>Qaf Qdp rfl (Zz hs)
   ·exact oa [5] fun D J w hs=>QaQ (V:=.int .u16 ((gd p.ops k2).qty)) Qar hs 7 rfl rfl rfl (Zz hs)
   ·exact oa [] fun D J w hs=>Qaf Qcg rfl (Zz hs)
   ·exact oa [7] fun D J w hs=>QaQ (V:=.int .u8 ((gd p.ops k2).kind)) Qdw hs 7 rfl rfl rfl (Zz hs)
   ·exact oa [] fun D J w hs=>Qaf Qbp rfl (Zz hs)
   ·exact oa [9] fun D J w hs=>QbY (vs:=dc ((gd p.ops k2).dot)) QcL hs 7 rfl rfl rfl rfl (Zz hs)
   ·exact oa [] fun D J w hs=>QaL (cs:=oc (gd p.ops k2)) QbB hs 7 rfl rfl rfl (Zz hs)
   ·exact oa [11] fun D J w hs=>Qat (vs:=[.agg (oc (gd p.ops k2)).toArray]) (V:=.int .u64 (QbH (gd p.ops k2))) Qs5 rfl rfl (Qih _ (gd p.ops k2) hxk) hs fun _ hs=>Zz hs
   ·exact oa [2,4,6,8,10,12] fun D J w hs=>QbD (vs:=[(0,.int .u16 ((gd p.ops k2).cart)),(1,.int .u16 ((gd p.ops k2).item)),(2,.int .u16 ((gd p.ops k2).qty)),(3,.int .u8 ((gd p.ops k2).kind)),(4,.agg (dc ((gd p.ops k2).dot)).toArray),(5,.int .u64 (QbH (gd p.ops k2)))]) (cs:=cec (⟨(gd p.ops k2).cart,(gd p.ops k2).item,(gd p.ops k2).qty,(gd p.ops k2).kind,(gd p.ops k2).dot,QbH (gd p.ops k2)⟩:Cen)) QqD (rfl) rfl (Zz hs)
   ·exact oa [13] fun D J w hs=>QhQ (vals:=[.agg (cec (⟨(gd p.ops k2).cart,(gd p.ops k2).item,(gd p.ops k2).qty,(gd p.ops k2).kind,(gd p.ops k2).dot,QbH (gd p.ops k2)⟩:Cen)).toArray]) (ls:=List.map cec ([(⟨(gd p.ops k2).cart,(gd p.ops k2).item,(gd p.ops k2).qty,(gd p.ops k2).kind,(gd p.ops k2).dot,QbH (gd p.ops k2)⟩:Cen)]:List Cen)) QeL rfl rfl rfl (Qbi (enc:=cec) (fun _=>rfl) _) (QaV Qbj _) (QQ8 rfl) hs fun _ _ hs=>⟨rfl,hs.put 9 (QQ8 rfl)⟩
   ·exact oa [0,14] fun D J w hs=>Qdi (ls':=(L7++[(⟨(gd p.ops k2).cart,(gd p.ops k2).item,(gd p.ops k2).qty,(gd p.ops k2).kind,(gd p.ops k2).dot,QbH (gd p.ops k2)⟩:Cen)]).map cec) (n:=(L7++[(⟨(gd p.ops k2).cart,(gd p.ops k2).item,(gd p.ops k2).qty,(gd p.ops k2).kind,(gd p.ops k2).dot,QbH (gd p.ops k2)⟩:Cen)]).length) QeL hs 5 rfl rfl rfl (hs.rd 9 rfl) (QaV Qbj _) (by simp only [QQ6,QQ7,List.length_cons,List.length_nil];omega) (by simp) (by simp) fun _ _ _ hs=>⟨rfl,hs⟩
   ·exact oa [15] fun D J w hs=>Qad (V:=.slice (aOf (J 97)) ((L7++[(⟨(gd p.ops k2).cart,(gd p.ops k2).item,(gd p.ops k2).qty,(gd p.ops k2).kind,(gd p.ops k2).dot,QbH (gd p.ops k2)⟩:Cen)]).length) (cOf (J 97))) rfl (Zz hs)
   rintro J1 w40 J2 hJ hs
   replace hJ:J2=upd (mix (sq 82 16++[11]) J1 _) 11 (.slice (aOf (J1 97)) ((L7++[(⟨(gd p.ops k2).cart,(gd p.ops k2).item,(gd p.ops k2).qty,(gd p.ops k2).kind,(gd p.ops k2).dot,QbH (gd p.ops k2)⟩:Cen)]).length) (cOf (J1 97))):=hJ
   replace hs:Own w no w40 [blk b1 (((vc p.base.known)++[(.slice a1 p.base.ents.length c1:Value),(.slice a2 p.base.ticks.length c2:Value) ])++[(.slice a3 p.ops.length c3:Value) ]++(vc p.known)) 43,blk b3 (vc cut) 24,blk b5 ((vc vzero)++[(.slice none 0 0:Value),(.slice none 0 0:Value) ]) 38,blk b10 [.slice a31 ((l8++[gd p.ops k2]).length) c31] 29,QgF mr12 (Value.int .u16) (Value.int .u32) (mput ((gd p.ops k2).cart) (max ((mget ((gd p.ops k2).cart) tm2).getD 0) ((gd p.ops k2).tick)) tm2),row (.slice (aOf (J1 97)) ((L7++[(⟨(gd p.ops k2).cart,(gd p.ops k2).item,(gd p.ops k2).qty,(gd p.ops k2).kind,(gd p.ops k2).dot,QbH (gd p.ops k2)⟩:Cen)]).length) (cOf (J1 97))) ((L7++[(⟨(gd p.ops k2).cart,(gd p.ops k2).item,(gd p.ops k2).qty,(gd p.ops k2).kind,(gd p.ops k2).dot,QbH (gd p.ops k2)⟩:Cen)]).map cec) 106 7,row (.slice a31 ((l8++[gd p.ops k2]).length) c31) ((l8++[gd p.ops k2]).map oc) 98 23,blk b24 (oc (gd p.ops k2)) 98,row (.slice (some ⟨b29,0,none⟩) 1 1) ([gd p.ops k2].map oc) 98 23,row (.slice (some ⟨(bOf (J1 96)),0,none⟩) 1 1) ([(⟨(gd p.ops k2).cart,(gd p.ops k2).item,(gd p.ops k2).qty,(gd p.ops k2).kind,(gd p.ops k2).dot,QbH (gd p.ops k2)⟩:Cen)].map cec) 106 7]:=hs
   generalize (bOf (J1 96))=b41 at hs
   generalize (aOf (J1 97))=a42 at hJ hs
   generalize (cOf (J1 97))=c43 at hJ hs
   subst hJ
   refine Qab (Qaa (QaF (a:=(k2:Int)) (b:=1) (c:=((k2+1:Nat):Int)) rfl rfl (Qak (by omega) (by omega)) (Qaa (Qac (V:=I6 ((k2+1:Nat):Int)) rfl (Qae ?_)))))
   refine ⟨_,?_,_,k2+1,a31,c31,l8++[gd p.ops k2],a42,c43,L7++[(⟨(gd p.ops k2).cart,(gd p.ops k2).item,(gd p.ops k2).qty,(gd p.ops k2).kind,(gd p.ops k2).dot,QbH (gd p.ops k2)⟩:Cen)],mput ((gd p.ops k2).cart) (max ((mget ((gd p.ops k2).cart) tm2).getD 0) ((gd p.ops k2).tick)) tm2,Qal (Qal (Qap (ds:=([11,13]++sq 46 53)) (by repeat (first|exact Agr.refl _ _|refine Agr.upd ?_ rfl|refine Agr.mix ?_ rfl))) rfl) rfl,(by omega),(Qe6 hl8 (by omega) c28),(by rw [hL7];exact Qk7 c36),(by rw [Qhh,← htm2]),(by simp only [QQ7,List.length_singleton];omega),(by simp only [QQ7,List.length_singleton];omega),rfl,hs.take 7⟩
   omega
  refine Qao (Qab (Qaa (QaF (a:=(k2:Int)) (b:=1) (c:=((k2+1:Nat):Int)) rfl rfl (Qak (by omega) (by omega)) (Qaa (Qac (V:=I6 ((k2+1:Nat):Int)) rfl (Qae ?_))))))
  refine ⟨_,?_,_,k2+1,a31,c31,l8++[gd p.ops k2],a7,cb7,L7,mput ((gd p.ops k2).cart) (max ((mget ((gd p.ops k2).cart) tm2).getD 0) ((gd p.ops k2).tick)) tm2,Qal (Qal (Qap (ds:=([11,13]++sq 46 53)) (by repeat (first|exact Agr.refl _ _|refine Agr.upd ?_ rfl|refine Agr.mix ?_ rfl))) rfl) rfl,(by omega),(Qe6 hl8 (by omega) c28),(by rw [hL7];exact Qm6 c36),(by rw [Qhh,← htm2]),(by omega),(by simp only [QQ7,List.length_singleton];omega),rfl,hs.take 7⟩
  omega
 replace c23:=QQ2 c23
 refine QaJ (Qag ?_)
 have hu:l8=QaC p.ops cut:=by rw [hl8,Qcz (by omega)]
 have hus:∀ o∈l8,o∈p.ops:=fun o h=>by rw [hu] at h;exact Qc8 h
 have hdt:∀ x∈L7,Qc9 x.dot:=by rw [hL7];exact QkW hok hus
 have htl:tm2.length<=10000:=by have:=QqO hok hr0 l8 hus;rw [← htm2] at this;omega
 have hfl:=List.length_filter_le (fun x=>!(fun x=>l8.any fun o=>QaE o (QaG x)) x) L7
 refine Qab (Qaa (Qac (V:=.slice a7 L7.length cb7) rfl (Qaa (Qc3 (cs:=[Pq b10 0]) rfl rfl (Qaa (Qi2 (α:=Unit) (vs:=[.slice a7 L7.length cb7,.func (.func 43) #[] #[Pq b10 0]]) (V:=fun _=>.slice a7 (L7.filter fun x=>!(fun x=>l8.any fun o=>QaE o (QaG x)) x).length cb7) (R:=row (.slice a7 L7.length cb7) (L7.map cec) 106 7) (R':=fun _=>row (.slice a7 (L7.filter fun x=>!(fun x=>l8.any fun o=>QaE o (QaG x)) x).length cb7) ((L7.filter fun x=>!(fun x=>l8.any fun o=>QaE o (QaG x)) x).map cec) 106 7) (Lo:=fun _=>[]) (F:=fun _ _=>True) QsV rfl rfl hs 5 rfl (fun S hS hlS hK=>Qiy _ S a7 cb7 L7 43 [Pq b10 0] Qu8 (fun x=>l8.any fun o=>QaE o (QaG x)) (fun w1 L1 h x hx=>Qmb w1 x b10 a8 cb8 l8 (hdt x hx) ((hK 3 (by decide) _ rfl).cells h) ((hK 6 (by decide) _ rfl).rd h)) hS hlS) fun _ w44 hs _=>(Qaa (Qad (V:=.slice a7 ((L7.filter fun x=>!(fun x=>l8.any fun o=>QaE o (QaG x)) x).length) cb7) rfl (Qae (Qag (Qab (Qaa (Qac (V:=.slice a7 ((L7.filter fun x=>!(fun x=>l8.any fun o=>QaE o (QaG x)) x).length) cb7) rfl (Qaa (Qbr (α:={ m:List Cen // QkG (L7.filter fun x=>!(fun x=>l8.any fun o=>QaE o (QaG x)) x) m }) (vs:=[.slice a7 ((L7.filter fun x=>!(fun x=>l8.any fun o=>QaE o (QaG x)) x).length) cb7,.func (.func 49) #[] #[]]) (V:=fun _=>.tuple #[]) (R:=row (.slice a7 ((L7.filter fun x=>!(fun x=>l8.any fun o=>QaE o (QaG x)) x).length) cb7) ((L7.filter fun x=>!(fun x=>l8.any fun o=>QaE o (QaG x)) x).map cec) 106 7) (R':=fun x=>row (.slice a7 ((L7.filter fun x=>!(fun x=>l8.any fun o=>QaE o (QaG x)) x).length) cb7) (x.1.map cec) 106 7) (Lo:=fun _=>[]) (F:=fun _ _=>True) Qvt rfl rfl hs 5 rfl (fun S hS hlt=>hsortE _ S _ _ _ hS hlt (by omega)) fun sx46 w45 hs _=>?_)))))))))))))))
 replace hs:Own w no w45 [blk b1 (((vc p.base.known)++[(.slice a1 p.base.ents.length c1:Value),(.slice a2 p.base.ticks.length c2:Value) ])++[(.slice a3 p.ops.length c3:Value) ]++(vc p.known)) 43,blk b3 (vc cut) 24,blk b5 ((vc vzero)++[(.slice none 0 0:Value),(.slice none 0 0:Value) ]) 38,blk b10 [.slice a8 l8.length cb8] 29,QgF mr12 (Value.int .u16) (Value.int .u32) tm2,row (.slice a7 ((L7.filter fun x=>!(fun x=>l8.any fun o=>QaE o (QaG x)) x).length) cb7) (sx46.1.map cec) 106 7,row (.slice a8 l8.length cb8) (l8.map oc) 98 23]:=hs
 refine Qae (Qag (Qab (Qaa (QaL (cs:=vc cut) Qbk hs 1 rfl rfl rfl (Qaa (Qac (V:=.slice a7 ((L7.filter fun x=>!(fun x=>l8.any fun o=>QaE o (QaG x)) x).length) cb7) rfl (Qaa (QcC (vs:=[(0,.agg (vc cut).toArray),(1,.slice a7 ((L7.filter fun x=>!(fun x=>l8.any fun o=>QaE o (QaG x)) x).length) cb7)]) (cs:=(vc cut)++[(.slice a7 ((L7.filter fun x=>!(fun x=>l8.any fun o=>QaE o (QaG x)) x).length) cb7:Value),(.slice none 0 0:Value) ]) [vc vzero,[(.slice none 0 0:Value)],[(.slice none 0 0:Value)]] [vc cut,[(.slice a7 ((L7.filter fun x=>!(fun x=>l8.any fun o=>QaE o (QaG x)) x).length) cb7:Value)],[(.slice none 0 0:Value)]] Qmz rfl (rfl) rfl rfl (Qaa (QaK (cs:=(vc vzero)++[(.slice none 0 0:Value),(.slice none 0 0:Value) ]) QfB rfl hs fun b47 w48 hs=>(Qaa (Qcx (V:=.agg ((vc cut)++[(.slice a7 ((L7.filter fun x=>!(fun x=>l8.any fun o=>QaE o (QaG x)) x).length) cb7:Value),(.slice none 0 0:Value) ]).toArray) (vs:=(vc cut)++[(.slice a7 ((L7.filter fun x=>!(fun x=>l8.any fun o=>QaE o (QaG x)) x).length) cb7:Value),(.slice none 0 0:Value) ]) (cs':=(vc cut)++[(.slice a7 ((L7.filter fun x=>!(fun x=>l8.any fun o=>QaE o (QaG x)) x).length) cb7:Value),(.slice none 0 0:Value) ]) QbU.1 hs 7 rfl rfl rfl rfl rfl (QQ8 rfl) (Qbl (QbO _) (Qau rfl (Qau rfl Qa1))) (Qaz rfl) fun w49 hs=>(Qae (Qag (Qag (Qab (Qaa (Qac (V:=.map (some mr12)) rfl (Qaa (Qbm (vs:=[.map (some mr12)]) (V:=fun x:Option Addr × Nat=>.slice x.1 (Qa7 (tm2.map (·.1))).length x.2) Qvd rfl rfl (Qmn _ mr12 tm2 (hs.mapf 4 rfl) (by omega) hsortU) hs fun x50 w51 hs _=>(Qaa (Qa3 (n:=(Qa7 (tm2.map (·.1))).length) QaN (hs.rd 8 rfl) (by simp) rfl (Qaa (Qac (V:=I6 0) rfl (Qae (Qan ?_))))))))))))))))))))))))))
 have hks:(Qa7 (tm2.map (·.1))).length<=10000:=by rw [QeR,QQ6];exact htl
 replace hs:=hs.more (row (.slice none 0 0) (List.map lsc []) 102 2) (Qbd _ _ _ _)
 refine QaD (fun J μ J' w'=>∃ (Jo:Env) (k3:Nat) (a9:Option Addr) (cb9:Nat) (T9:List Lst),J'=upd (mix ([16]++sq 110 15) Jo J) 110 (I6 (k3:Int))/\(k3<=(Qa7 (tm2.map (·.1))).length)/\(T9=((Qa7 (tm2.map (·.1))).take k3).map (tkL tm2))/\(T9.length<=k3)/\μ=(Qa7 (tm2.map (·.1))).length-k3/\Own w no w' [blk b1 (((vc p.base.known)++[(.slice a1 p.base.ents.length c1:Value),(.slice a2 p.base.ticks.length c2:Value) ])++[(.slice a3 p.ops.length c3:Value) ]++(vc p.known)) 43,blk b3 (vc cut) 24,blk b5 ((vc vzero)++[(.slice none 0 0:Value),(.slice none 0 0:Value) ]) 38,blk b10 [.slice a8 l8.length cb8] 29,QgF mr12 (Value.int .u16) (Value.int .u32) tm2,row (.slice a7 ((L7.filter fun x=>!(fun x=>l8.any fun o=>QaE o (QaG x)) x).length) cb7) (sx46.1.map cec) 106 7,row (.slice a8 l8.length cb8) (l8.map oc) 98 23,blk b47 ((vc cut)++[(.slice a7 ((L7.filter fun x=>!(fun x=>l8.any fun o=>QaE o (QaG x)) x).length) cb7:Value),(.slice a9 T9.length cb9:Value) ]) 38,row (.slice x50.1 ((Qa7 (tm2.map (·.1))).length) x50.2) ((Qa7 (tm2.map (·.1))).map (ic .u16)) 32 1,row (.slice a9 T9.length cb9) (T9.map lsc) 102 2]) ?_ ?_
 ·exact ⟨_,_,0,none,0,[],Qal (Qap (ds:=([16]++sq 110 15)) (Agr.refl _ _)) rfl,(by omega),rfl,(Nat.le_refl _),rfl,hs⟩
 rintro μ J' w52 ⟨Jo,k3,a9,cb9,T9,rfl,hk3,hT9,hn9,rfl,hs⟩
 refine Qag (Qab (Qaa (Qa2 rfl rfl (Qae (Qag (Qam (t:=decide ((k3:Int)<(((Qa7 (tm2.map (·.1))).length:Nat):Int))) rfl (fun c53=>?_) (fun c53=>?_)))))))
 ·
  replace c53:=QQ1 c53
  refine Qao (Qag (Qan (Qag (Qab (Qaa (Qax QaN Qar.1 (hs.rd 8 rfl) rfl rfl (by omega) (by rw [QQ6];omega) (Qaa (QaW (j:=0) (V:=I7 (gd (Qa7 (tm2.map (·.1))) k3)) k3 Qar (hs.rd 8 rfl) (Qba (by omega)) rfl rfl (by omega) (Qaa (Qad (V:=I7 (gd (Qa7 (tm2.map (·.1))) k3)) rfl (Qae (Qab (Qaa (Qaf QcI rfl (Qaa (QaQ (V:=.slice a9 T9.length cb9) Qfi hs 7 rfl rfl rfl (Qaa (Qac (V:=I7 (gd (Qa7 (tm2.map (·.1))) k3)) rfl (Qaa (Qac (V:=.map (some mr12)) rfl (Qaa (Qac (V:=I7 (gd (Qa7 (tm2.map (·.1))) k3)) rfl (Qaa (QiH (k:=gd (Qa7 (tm2.map (·.1))) k3) (z:=0) Qid Qor QtT (hs.mapf 4 rfl) rfl rfl (Qaa (QbD (vs:=[(0,I7 (gd (Qa7 (tm2.map (·.1))) k3)),(1,.int .u32 ((mget (gd (Qa7 (tm2.map (·.1))) k3) tm2).getD 0))]) (cs:=lsc (⟨gd (Qa7 (tm2.map (·.1))) k3,(mget (gd (Qa7 (tm2.map (·.1))) k3) tm2).getD 0⟩:Lst)) Qqk (rfl) rfl (Qaa (QhQ (vals:=[.agg (lsc (⟨gd (Qa7 (tm2.map (·.1))) k3,(mget (gd (Qa7 (tm2.map (·.1))) k3) tm2).getD 0⟩:Lst)).toArray]) (ls:=List.map lsc ([(⟨gd (Qa7 (tm2.map (·.1))) k3,(mget (gd (Qa7 (tm2.map (·.1))) k3) tm2).getD 0⟩:Lst)]:List Lst)) Qgx rfl rfl rfl (Qbi (enc:=lsc) (fun _=>rfl) _) (QaV Qcf _) (QQ8 rfl) hs fun b54 w55 hs=>?_))))))))))))))))))))))))))))
  replace hs:Own w no w55 [blk b1 (((vc p.base.known)++[(.slice a1 p.base.ents.length c1:Value),(.slice a2 p.base.ticks.length c2:Value) ])++[(.slice a3 p.ops.length c3:Value) ]++(vc p.known)) 43,blk b3 (vc cut) 24,blk b5 ((vc vzero)++[(.slice none 0 0:Value),(.slice none 0 0:Value) ]) 38,blk b10 [.slice a8 l8.length cb8] 29,QgF mr12 (Value.int .u16) (Value.int .u32) tm2,row (.slice a7 ((L7.filter fun x=>!(fun x=>l8.any fun o=>QaE o (QaG x)) x).length) cb7) (sx46.1.map cec) 106 7,row (.slice a8 l8.length cb8) (l8.map oc) 98 23,blk b47 ((vc cut)++[(.slice a7 ((L7.filter fun x=>!(fun x=>l8.any fun o=>QaE o (QaG x)) x).length) cb7:Value),(.slice a9 T9.length cb9:Value) ]) 38,row (.slice x50.1 ((Qa7 (tm2.map (·.1))).length) x50.2) ((Qa7 (tm2.map (·.1))).map (ic .u16)) 32 1,row (.slice a9 T9.length cb9) (T9.map lsc) 102 2,row (.slice (some ⟨b54,0,none⟩) 1 1) ([(⟨gd (Qa7 (tm2.map (·.1))) k3,(mget (gd (Qa7 (tm2.map (·.1))) k3) tm2).getD 0⟩:Lst)].map lsc) 102 2]:=hs
  refine Qaa (Qdi (ls':=(T9++[(⟨gd (Qa7 (tm2.map (·.1))) k3,(mget (gd (Qa7 (tm2.map (·.1))) k3) tm2).getD 0⟩:Lst)]).map lsc) (n:=(T9++[(⟨gd (Qa7 (tm2.map (·.1))) k3,(mget (gd (Qa7 (tm2.map (·.1))) k3) tm2).getD 0⟩:Lst)]).length) Qgx hs 9 rfl rfl rfl (hs.rd 10 rfl) (QaV Qcf _) (by simp only [QQ6,QQ7,List.length_cons,List.length_nil];omega) (by simp) (by simp) fun a56 c56 w57 hs=>(Qaa (Qaf QcI rfl (Qaa (Qc0 (V:=.slice a56 ((T9++[(⟨gd (Qa7 (tm2.map (·.1))) k3,(mget (gd (Qa7 (tm2.map (·.1))) k3) tm2).getD 0⟩:Lst)]).length) c56) (cs':=(vc cut)++[(.slice a7 ((L7.filter fun x=>!(fun x=>l8.any fun o=>QaE o (QaG x)) x).length) cb7:Value),(.slice a56 ((T9++[(⟨gd (Qa7 (tm2.map (·.1))) k3,(mget (gd (Qa7 (tm2.map (·.1))) k3) tm2).getD 0⟩:Lst)]).length) c56:Value) ]) Qfi hs 7 rfl rfl rfl rfl (QQ8 rfl) rfl fun w58 hs=>(Qae (Qab (Qaa (QaF (a:=(k3:Int)) (b:=1) (c:=((k3+1:Nat):Int)) rfl rfl (Qak (by omega) (by omega)) (Qaa (Qac (V:=I6 ((k3+1:Nat):Int)) rfl (Qae ?_))))))))))))
  refine ⟨_,?_,_,k3+1,a56,c56,T9++[(⟨gd (Qa7 (tm2.map (·.1))) k3,(mget (gd (Qa7 (tm2.map (·.1))) k3) tm2).getD 0⟩:Lst)],Qal (Qap (ds:=([16]++sq 110 15)) (by repeat (first|exact Agr.refl _ _|refine Agr.upd ?_ rfl|refine Agr.mix ?_ rfl))) rfl,(by omega),(Qkn (f:=tkL tm2) hT9 (by omega)),(by simp only [QQ7,List.length_singleton];omega),rfl,hs.take 10⟩
  omega
 replace c53:=QQ2 c53
 refine QaJ (Qag (Qab (Qaa (QaL (cs:=(vc cut)++[(.slice a7 ((L7.filter fun x=>!(fun x=>l8.any fun o=>QaE o (QaG x)) x).length) cb7:Value),(.slice a9 T9.length cb9:Value) ]) QbU hs 7 rfl rfl rfl (Qaa (Qcx (V:=.agg ((vc cut)++[(.slice a7 ((L7.filter fun x=>!(fun x=>l8.any fun o=>QaE o (QaG x)) x).length) cb7:Value),(.slice a9 T9.length cb9:Value) ]).toArray) (vs:=(vc cut)++[(.slice a7 ((L7.filter fun x=>!(fun x=>l8.any fun o=>QaE o (QaG x)) x).length) cb7:Value),(.slice a9 T9.length cb9:Value) ]) (cs':=(vc cut)++[(.slice a7 ((L7.filter fun x=>!(fun x=>l8.any fun o=>QaE o (QaG x)) x).length) cb7:Value),(.slice a9 T9.length cb9:Value) ]) QbU.1 hs 2 rfl rfl rfl rfl rfl (QQ8 rfl) (Qbl (QbO _) (Qau rfl (Qau rfl Qa1))) (Qaz rfl) fun w59 hs=>?_))))))
 replace hs:Own w no w59 [blk b1 (((vc p.base.known)++[(.slice a1 p.base.ents.length c1:Value),(.slice a2 p.base.ticks.length c2:Value) ])++[(.slice a3 p.ops.length c3:Value) ]++(vc p.known)) 43,blk b3 (vc cut) 24,blk b5 ((vc cut)++[(.slice a7 ((L7.filter fun x=>!(fun x=>l8.any fun o=>QaE o (QaG x)) x).length) cb7:Value),(.slice a9 T9.length cb9:Value) ]) 38,blk b10 [.slice a8 l8.length cb8] 29,QgF mr12 (Value.int .u16) (Value.int .u32) tm2,row (.slice a7 ((L7.filter fun x=>!(fun x=>l8.any fun o=>QaE o (QaG x)) x).length) cb7) (sx46.1.map cec) 106 7,row (.slice a8 l8.length cb8) (l8.map oc) 98 23,blk b47 ((vc cut)++[(.slice a7 ((L7.filter fun x=>!(fun x=>l8.any fun o=>QaE o (QaG x)) x).length) cb7:Value),(.slice a9 T9.length cb9:Value) ]) 38,row (.slice x50.1 ((Qa7 (tm2.map (·.1))).length) x50.2) ((Qa7 (tm2.map (·.1))).map (ic .u16)) 32 1,row (.slice a9 T9.length cb9) (T9.map lsc) 102 2]:=hs
 refine Qaa (Qad (V:=I6 0) rfl (Qae (Qaw ?_)))
 refine ⟨_,Qcm (cs:=(vc cut)++[(.slice a7 ((L7.filter fun x=>!(fun x=>l8.any fun o=>QaE o (QaG x)) x).length) cb7:Value),(.slice a9 T9.length cb9:Value) ]) (V:=I6 0) Tryz.results12 QbU hs 2 rfl rfl rfl rfl,?_⟩
 have hmz:=c8
 have hTT:T9=(Qa7 (tm2.map (·.1))).map (tkL tm2):=by rw [hT9,Qcz (by omega)]
 have hX:=Qjq hok hmz hu hL7 sx46.2 htm2 hTT
 have hml:=sx46.2.1.length_eq.symm
 rw [hX,hmz]
 rw [hml] at hs ⊢
 exact ⟨((a7,cb7),(a9,cb9)),rfl,hs.two 5 9 (by decide) rfl rfl,trivial⟩
end Tt
end Go.Proofs
