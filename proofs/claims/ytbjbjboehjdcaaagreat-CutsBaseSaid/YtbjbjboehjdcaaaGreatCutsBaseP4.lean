/- A part of a proof: what functions of the program compute, and plain facts on that. -/
import Derived.Test.YtbjbjboehjdcaaaGreatCutsBaseP3
set_option linter.unusedVariables false
set_option linter.unusedSimpArgs false
set_option maxHeartbeats 4000000
set_option maxRecDepth 100000
namespace Go.Proofs
open Go Go.Vx Go.RowKit
namespace Tt
theorem Qfc (w:World) (s:Sta) (a1:Option Addr) (c1:Nat) (a2:Option Addr) (c2:Nat) (hok:QdE s) (hle:s.ents.length<=1000) (hlt:s.ticks.length<=1000) (hr1:Rd w (.slice a1 s.ents.length c1) 7 (s.ents.map cec)) (hr2:Rd w (.slice a2 s.ticks.length c2) 2 (s.ticks.map lsc)):Calls Tryz.prog 73 #[.agg ((vc s.known)++[(.slice a1 s.ents.length c1:Value),(.slice a2 s.ticks.length c2:Value) ]).toArray] w (fun e w'=>e = .returned (.bool (Qas s))/\Own w no w' []):=by
 refine Qaj (n:=107) Tryz.func73 rfl Tryz.ntmps73 rfl ?_
 have hs:=Own.start w
 have ⟨hv0,hE0,hT0⟩:=hok
 have hn1:=hr1.sml
 have hn2:=hr2.sml
 refine Qag (Qab (Qaa (Qa5 (V:=.agg ((vc s.known)++[(.slice a1 s.ents.length c1:Value),(.slice a2 s.ticks.length c2:Value) ]).toArray) (cs:=(vc s.known)++[(.slice a1 s.ents.length c1:Value),(.slice a2 s.ticks.length c2:Value) ]) rfl rfl hs fun b1 w2 hs=>(Qaa (Qad (V:=.bool false) rfl (Qae (Qag (Qag (Qab (Qaa (Qaf Qd3 rfl (Qaa (QbP (vs:=vc s.known) Qbs hs 0 rfl rfl rfl rfl (Qaa (Qav (vs:=[.agg (vc s.known).toArray,I6 16]) (V:=.bool (QaR s.known 16)) Qq7 rfl rfl ?hc hs fun w3 hs=>?_)))))))))))))))
 case hc=>exact (Qgt _ s.known 16 (by first|assumption|exact QcC))
 refine Qaa (Qbw rfl (Qae (Qam (t:=!(QaR s.known 16)) rfl (fun c4=>?_) (fun c4=>?_))))
 ·
  replace c4:=Qby c4
  refine Qag (Qab (Qaa (Qad (V:=.bool false) rfl (Qae (Qaw ?_)))))
  refine ⟨_,Qao (V:=.bool false) Tryz.results73 rfl,(Zr hs ?_)⟩
  exact congrArg Value.bool (QkN c4).symm
 replace c4:=Qbq c4
 refine Qaq (Qag (Qag (Qab (Qaa (Qaf QcI rfl (Qaa (QaQ (V:=.slice a2 s.ticks.length c2) Qfr hs 0 rfl rfl rfl (Qaa (Qa3 (n:=s.ticks.length) Qet (Rd.own' hr2 hs) (by simp) rfl (Qaa (Qac (V:=I6 0) rfl (Qae (Qan (QaG (fun J μ J' w'=>∃ (Jo:Env) (k:Nat),J'=upd (mix ([2,3,4]++sq 19 25) Jo J) 19 (I6 (k:Int))/\(k<=s.ticks.length)/\(∀ j:Nat,j<k->QnW s.ticks j=false)/\μ=s.ticks.length-k/\Own w no w' [blk b1 ((vc s.known)++[(.slice a1 s.ents.length c1:Value),(.slice a2 s.ticks.length c2:Value) ]) 38]) ?_ ?_))))))))))))))
 ·exact ⟨_,_,0,Qal (Qap (ds:=([2,3,4]++sq 19 25)) (Agr.refl _ _)) rfl,(by omega),(fun j hj=>absurd hj (Nat.not_lt_zero j)),rfl,hs⟩
 rintro μ J' w5 ⟨Jo,k,rfl,hk,hbt,rfl,hs⟩
 refine Qag (Qab (Qaa (Qa2 rfl rfl (Qae (Qag (Qam (t:=decide ((k:Int)<((s.ticks.length:Nat):Int))) rfl (fun c6=>?_) (fun c6=>?_)))))))
 ·
  replace c6:=QQ1 c6
  refine Qaq (Qag (Qan (Qag (Qab (Qaa (Qac (V:=I6 (k:Int)) rfl (Qaa (Qax Qet QbM.1 (Rd.own' hr2 hs) rfl rfl (by omega) (by rw [QQ6];omega) (Qaa (Qbb (j:=0) (vs:=lsc (gd s.ticks k)) k QbM (Rd.own' hr2 hs) (Qba (by omega)) rfl rfl rfl (by omega) (Qaa (QaM (cs:=lsc (⟨0,0⟩:Lst)) QjB rfl hs fun b7 w8 hs=>(Qaa (Qad (V:=I6 (k:Int)) rfl (Qaa (QcG (V:=.agg (lsc (gd s.ticks k)).toArray) (vs:=lsc (gd s.ticks k)) (cs':=lsc (gd s.ticks k)) QbM.1 hs 1 rfl rfl rfl rfl rfl (QQ8 rfl) (Qcg _) (QaA rfl) fun w9 hs=>(Qae (Qag (QaI HM [some 24,some 25,some 26,some 27,some 28,some 29,some 30,some 31,some 32,some 33,some 34,some 35,some 36,some 37,some 38,some 39,some 40,some 41,some 42] [] [0,1,3,7,15,31,63,127,255,127,639,2047,4095,8191,127,16511,65535,131071,262143] [pv (Pq b7 (0+1)),pv (.int .u32 ((gd s.ticks k).tick)),pv (.bool (decide (1073741824<(gd s.ticks k).tick))),pv (.bool (decide (1073741824<(gd s.ticks k).tick))),pg ((decide (1073741824<(gd s.ticks k).tick)) == false) (I6 (k:Int)),pg ((decide (1073741824<(gd s.ticks k).tick)) == false) (.bool (decide (0<(k:Int)))),pg ((decide (1073741824<(gd s.ticks k).tick)) == false) (.bool (decide (0<(k:Int)))),pg (((decide (1073741824<(gd s.ticks k).tick)) == false)&&((decide (0<(k:Int))) == true)) (Pq b1 (0+17)),pg (((decide (1073741824<(gd s.ticks k).tick)) == false)&&((decide (0<(k:Int))) == true)) (.slice a2 s.ticks.length c2),pg (((decide (1073741824<(gd s.ticks k).tick)) == false)&&((decide (0<(k:Int))) == true)) (I6 (k:Int)),pg (((decide (1073741824<(gd s.ticks k).tick)) == false)&&((decide (0<(k:Int))) == true)) (I6 ((k-1:Nat):Int)),pg (((decide (1073741824<(gd s.ticks k).tick)) == false)&&((decide (0<(k:Int))) == true)) (.pointer (some ⟨bkS (.slice a2 s.ticks.length c2),ofS (.slice a2 s.ticks.length c2)+((k-1:Nat):Int).toNat*2,none⟩)),pg (((decide (1073741824<(gd s.ticks k).tick)) == false)&&((decide (0<(k:Int))) == true)) (.pointer (some ⟨bkS (.slice a2 s.ticks.length c2),ofS (.slice a2 s.ticks.length c2)+((k-1:Nat):Int).toNat*2+0,none⟩)),pg (((decide (1073741824<(gd s.ticks k).tick)) == false)&&((decide (0<(k:Int))) == true)) (I7 ((gd s.ticks (k-1)).cart)),pg (((decide (1073741824<(gd s.ticks k).tick)) == false)&&((decide (0<(k:Int))) == true)) (Pq b7 (0+0)),pg (((decide (1073741824<(gd s.ticks k).tick)) == false)&&((decide (0<(k:Int))) == true)) (I7 ((gd s.ticks k).cart)),pg (((decide (1073741824<(gd s.ticks k).tick)) == false)&&((decide (0<(k:Int))) == true)) (.bool (decide ((gd s.ticks k).cart<=(gd s.ticks (k-1)).cart))),pg ((decide (1073741824<(gd s.ticks k).tick)) == false) (.bool ((decide (0<(k:Int)))&&(decide ((gd s.ticks k).cart<=(gd s.ticks (k-1)).cart)))),pv (.bool ((decide (1073741824<(gd s.ticks k).tick))||((decide (0<(k:Int)))&&(decide ((gd s.ticks k).cart<=(gd s.ticks (k-1)).cart)))))] (fun _ _=>_) [18] (by kernel_rfl) hs ⟨?_,?_,?_,?_,?_,?_,?_,?_,?_,?_,?_,?_,?_,?_,?_,?_,?_,?_,?_,trivial⟩ ?_)))))))))))))))))))
  ·exact oa [] fun D J w hs=>Qaf Qep rfl (Zz hs)
  ·exact oa [0] fun D J w hs=>QaQ (V:=.int .u32 ((gd s.ticks k).tick)) QaU hs 1 rfl rfl rfl (Zz hs)
  ·exact oa [1] fun D J w hs=>Qb2 rfl rfl (Zz hs)
  ·exact oa [2] fun D J w hs=>Qac (V:=.bool (decide (1073741824<(gd s.ticks k).tick))) rfl (Zz hs)
  ·exact og [3] fun D J w hG hs=>Qac (V:=.int .i64 (k:Int)) rfl (Zz hs)
  ·exact oy [3,4] [4] fun D J w hG hs=>Qb2 rfl rfl (Zz hs)
  ·exact oy [3,5] [5] fun D J w hG hs=>Qac (V:=.bool (decide (0<(k:Int)))) rfl (Zz hs)
  ·exact og [6] fun D J w hG hs=>Qaf QcI rfl (Zz hs)
  ·exact oy [6,7] [7] fun D J w hG hs=>QaQ (V:=.slice a2 s.ticks.length c2) Qfr hs 0 rfl rfl rfl (Zz hs)
  ·exact og [6] fun D J w hG hs=>Qac (V:=.int .i64 (k:Int)) rfl (Zz hs)
  ·refine oy [6,9] [9] fun D J w hG hs=>?_
   have hgd0:=QQ2 (eq_of_beq (Qb1 (hG)))
   have hgd1:=QQ1 (eq_of_beq (QcB (hG)))
   exact Qa6 (a:=(k:Int)) (b:=1) (c:=((k-1:Nat):Int)) rfl rfl (Qak (by omega) (by omega)) (Zz hs)
  ·refine oy [6,8,10] [8,10] fun D J w hG hs=>?_
   have hgd0:=QQ2 (eq_of_beq (Qb1 (hG)))
   have hgd1:=QQ1 (eq_of_beq (QcB (hG)))
   exact Qax Qet QbM.1 (Rd.own' hr2 hs) rfl rfl (by omega) (by rw [QQ6];omega) (Zz hs)
  ·exact oy [6,11] [11] fun D J w hG hs=>Qaf Qel rfl (Zz hs)
  ·refine oy [6,12] [12] fun D J w hG hs=>?_
   have hgd0:=QQ2 (eq_of_beq (Qb1 (hG)))
   have hgd1:=QQ1 (eq_of_beq (QcB (hG)))
   exact QaW (j:=0) (V:=.int .u16 ((gd s.ticks (k-1)).cart)) (k-1) Qat (Rd.own' hr2 hs) (Qba (by omega)) rfl rfl (by omega) (Zz hs)
  ·exact og [6] fun D J w hG hs=>Qaf Qel rfl (Zz hs)
  ·exact oy [6,14] [14] fun D J w hG hs=>QaQ (V:=.int .u16 ((gd s.ticks k).cart)) Qat hs 1 rfl rfl rfl (Zz hs)
  ·exact oy [6,13,15] [13,15] fun D J w hG hs=>QcY rfl rfl (Zz hs)
  ·exact oy [3,6,16] [6] fun D J w hG hs=>Qj7 (h':=decide ((gd s.ticks k).cart<=(gd s.ticks (k-1)).cart)) (G:=((decide (1073741824<(gd s.ticks k).tick)) == false)) hG rfl rfl rfl (Zz hs)
  ·exact oa [3,17] fun D J w hs=>Qb4 (h':=(decide (0<(k:Int)))&&(decide ((gd s.ticks k).cart<=(gd s.ticks (k-1)).cart))) rfl rfl rfl (Zz hs)
  rintro J1 w10 J2 hJ hs
  replace hJ:J2=upd (mix (sq 24 19) J1 _) 42 (.bool ((decide (1073741824<(gd s.ticks k).tick))||((decide (0<(k:Int)))&&(decide ((gd s.ticks k).cart<=(gd s.ticks (k-1)).cart))))):=hJ
  subst hJ
  refine Qam (t:=(decide (1073741824<(gd s.ticks k).tick))||((decide (0<(k:Int)))&&(decide ((gd s.ticks k).cart<=(gd s.ticks (k-1)).cart)))) rfl (fun c11=>?_) (fun c11=>?_)
  ·
   refine Qag (Qab (Qaa (Qad (V:=.bool false) rfl (Qae (Qaw ?_)))))
   refine ⟨_,Qao (V:=.bool false) Tryz.results73 rfl,(Zr hs ?_)⟩
   exact congrArg Value.bool (QkA (i:=k) (by omega) (by unfold QnW;have hq:=c11;simpa using hq)).symm
  have c11r:=QfT c11
  replace c11:=QfR c11
  replace c11:=QQ2 c11
  refine Qaq (Qab (Qaa (QaF (a:=(k:Int)) (b:=1) (c:=((k+1:Nat):Int)) rfl rfl (Qak (by omega) (by omega)) (Qaa (Qac (V:=I6 ((k+1:Nat):Int)) rfl (Qae ?_))))))
  refine ⟨_,?_,_,k+1,Qal (Qap (ds:=([2,3,4]++sq 19 25)) (by repeat (first|exact Agr.refl _ _|refine Agr.upd ?_ rfl|refine Agr.mix ?_ rfl))) rfl,(by omega),(Qdi hbt (by unfold QnW;rw [QQ4 c11,Bool.false_or];have hq:=c11r;simpa using hq)),rfl,hs.take 1⟩
  omega
 replace c6:=QQ2 c6
 refine QaL (Qag (Qab (Qaa (QfW rfl hs dv uv fun mr12 w13 hs=>(Qaa (Qad (V:=.map (some mr12)) rfl (Qae (Qag (Qag (Qab (Qaa (Qaf Qdb rfl (Qaa (QaQ (V:=.slice a1 s.ents.length c1) Qf6 hs 0 rfl rfl rfl (Qaa (Qa3 (n:=s.ents.length) QbD (Rd.own' hr1 hs) (by simp) rfl (Qaa (Qac (V:=I6 0) rfl (Qae (Qan ?_))))))))))))))))))))
 have hbt2:=fun j (hj:j<s.ticks.length)=>hbt j (by omega)
 have hT:QdC s.ticks:=by have:=Qp9 (Nat.le_refl _) hbt2;rwa [List.take_length] at this
 refine QaG (fun J μ J' w'=>∃ (Jo:Env) (k2:Nat) (sm:List (Dot × Unit)),J'=upd (mix ([2]++sq 6 6++sq 48 59) Jo J) 48 (I6 (k2:Int))/\(k2<=s.ents.length)/\(∀ j:Nat,j<k2->Qku s j=false)/\(sm=Qir (s.ents.take k2))/\μ=s.ents.length-k2/\Own w no w' [blk b1 ((vc s.known)++[(.slice a1 s.ents.length c1:Value),(.slice a2 s.ticks.length c2:Value) ]) 38,QgK mr12 dv uv sm]) ?_ ?_
 ·exact ⟨_,_,0,[],Qal (Qap (ds:=([2]++sq 6 6++sq 48 59)) (Agr.refl _ _)) rfl,(by omega),(fun j hj=>absurd hj (Nat.not_lt_zero j)),rfl,rfl,hs⟩
 rintro μ J' w14 ⟨Jo,k2,sm,rfl,hk2,hbe,hsm,rfl,hs⟩
 refine Qag (Qab (Qaa (Qa2 rfl rfl (Qae (Qag (Qam (t:=decide ((k2:Int)<((s.ents.length:Nat):Int))) rfl (fun c15=>?_) (fun c15=>?_)))))))
 ·
  replace c15:=QQ1 c15
  refine Qaq (Qag (Qan (Qag (Qab (Qaa (Qac (V:=I6 (k2:Int)) rfl (Qaa (Qax QbD QaD.1 (Rd.own' hr1 hs) rfl rfl (by omega) (by rw [QQ6];omega) (Qaa (Qbb (j:=0) (vs:=cec (gd s.ents k2)) k2 QaD (Rd.own' hr1 hs) (Qba (by omega)) rfl rfl rfl (by omega) (Qaa (QaM (cs:=cec (⟨0,0,0,0,(⟨0,0⟩:Dot),0⟩:Cen)) QfD rfl hs fun b16 w17 hs=>(Qaa (Qad (V:=I6 (k2:Int)) rfl (Qaa (QcG (V:=.agg (cec (gd s.ents k2)).toArray) (vs:=cec (gd s.ents k2)) (cs':=cec (gd s.ents k2)) QaD.1 hs 2 rfl rfl rfl rfl rfl (QQ8 rfl) (Qbl _) (QaA rfl) fun w18 hs=>?_))))))))))))))))
  replace hs:Own w no w18 [blk b1 ((vc s.known)++[(.slice a1 s.ents.length c1:Value),(.slice a2 s.ticks.length c2:Value) ]) 38,QgK mr12 dv uv sm,blk b16 (cec (gd s.ents k2)) 106]:=hs
  refine Qae (Qag ?_)
  have hce:=hE0 _ (QbB (l:=s.ents) (i:=k2) (by omega))
  have ⟨_,_,_,_,hdk,_⟩:=hce
  refine Qab (Qaa (QaP (cs:=(vc s.known)++[(.slice a1 s.ents.length c1:Value),(.slice a2 s.ticks.length c2:Value) ]) QbR hs 0 rfl rfl rfl (Qaa (Qaf Qdj rfl (Qaa (QaQ (V:=I7 ((gd s.ents k2).cart)) Qat hs 2 rfl rfl rfl (Qaa (Qav (vs:=[.agg ((vc s.known)++[(.slice a1 s.ents.length c1:Value),(.slice a2 s.ticks.length c2:Value) ]).toArray,I7 ((gd s.ents k2).cart)]) (V:=.tuple #[I6 ((QbJ s.ticks ((gd s.ents k2).cart):Nat):Int),.bool ((QaJ s.ticks ((gd s.ents k2).cart)).isSome)]) Qsh rfl rfl ?hc hs fun w19 hs=>?_))))))))
  case hc=>exact (QhM _ s.known (.slice a1 s.ents.length c1) a2 c2 s.ticks ((gd s.ents k2).cart) (by omega) hT (Rd.own' hr2 hs))
  refine Qaa (Qac (V:=.tuple #[I6 ((QbJ s.ticks ((gd s.ents k2).cart):Nat):Int),.bool ((QaJ s.ticks ((gd s.ents k2).cart)).isSome)]) rfl (Qaa (Qay (V:=I6 ((QbJ s.ticks ((gd s.ents k2).cart):Nat):Int)) rfl rfl (Qaa (Qay (V:=.bool ((QaJ s.ticks ((gd s.ents k2).cart)).isSome)) rfl rfl (Qaa (Qad (V:=I6 ((QbJ s.ticks ((gd s.ents k2).cart):Nat):Int)) rfl (Qaa (Qad (V:=.bool ((QaJ s.ticks ((gd s.ents k2).cart)).isSome)) rfl (Qae (Qag (Qab (Qaa (Qac (V:=.map (some mr12)) rfl (Qaa (Qaf QbL rfl (Qaa (QbP (vs:=dc ((gd s.ents k2).dot)) QcH hs 2 rfl rfl rfl rfl (Qaa (Qgm (k:=(gd s.ents k2).dot) Qko Qn5 QjH (hs.mapf 1 rfl) rfl rfl (Qaa (Qac (V:=.tuple #[.agg #[],.bool ((mget ((gd s.ents k2).dot) sm).isSome)]) rfl (Qaa (Qay (V:=.agg #[]) rfl rfl (Qaa (Qay (V:=.bool ((mget ((gd s.ents k2).dot) sm).isSome)) rfl rfl (Qaa (QaM (cs:=[]) QjH rfl hs fun b20 w21 hs=>(Qaa (QcG (V:=.agg #[]) (vs:=[]) (cs':=[]) Qqn.1 hs 3 rfl rfl rfl rfl rfl (QQ8 rfl) QaY (QaA rfl) fun w22 hs=>(Qaa (Qad (V:=.bool ((mget ((gd s.ents k2).dot) sm).isSome)) rfl (Qae (Qag (Qan (Qag (Qag (Qab (Qaa (Qac (V:=.bool ((QaJ s.ticks ((gd s.ents k2).cart)).isSome)) rfl (Qaa (Qbw rfl (Qaa (Qad (V:=.bool (!((QaJ s.ticks ((gd s.ents k2).cart)).isSome))) rfl (Qae (Qam (t:=!((QaJ s.ticks ((gd s.ents k2).cart)).isSome)) rfl (fun c23=>?_) (fun c23=>?_)))))))))))))))))))))))))))))))))))))))))))))))
  ·
   replace c23:=Qby c23
   refine Qaq (QcJ (congrArg Value.bool (by rw [c23];rfl)) ?_)
   refine Qag (Qab (Qaa (Qad (V:=.bool false) rfl (Qae (Qaw ?_)))))
   refine ⟨_,Qao (V:=.bool false) Tryz.results73 rfl,(Zr hs (congrArg Value.bool (Qc4 (i:=k2) (by omega) ?_).symm))⟩
   unfold Qku QjT;rw [c23];simp
  replace c23:=Qbq c23
  refine Qag (Qab (Qaa (Qac (V:=.bool ((mget ((gd s.ents k2).dot) sm).isSome)) rfl (Qaa (Qad (V:=.bool ((mget ((gd s.ents k2).dot) sm).isSome)) rfl (Qae (Qam (t:=(mget ((gd s.ents k2).dot) sm).isSome) rfl (fun c24=>?_) (fun c24=>?_))))))))
  ·
   refine Qaq (QcJ (congrArg Value.bool c24) ?_)
   refine Qag (Qab (Qaa (Qad (V:=.bool false) rfl (Qae (Qaw ?_)))))
   refine ⟨_,Qao (V:=.bool false) Tryz.results73 rfl,(Zr hs (congrArg Value.bool (Qc4 (i:=k2) (by omega) ?_).symm))⟩
   unfold Qku;rw [← Qh4,← hsm,c24];simp
  refine Qag (Qab (Qaa (QaP (cs:=cec (gd s.ents k2)) QaD hs 2 rfl rfl rfl (Qaa (Qav (vs:=[.agg (cec (gd s.ents k2)).toArray]) (V:=.bool (QcW (gd s.ents k2))) QsT rfl rfl ?hc hs fun w25 hs=>?_)))))
  case hc=>exact (QkR _ (gd s.ents k2) (by assumption))
  refine Qaa (Qbw rfl (Qaa (Qad (V:=.bool (!(QcW (gd s.ents k2)))) rfl (Qae (Qam (t:=!(QcW (gd s.ents k2))) rfl (fun c26=>?_) (fun c26=>?_))))))
  ·
   replace c26:=Qby c26
   refine Qaq (QcJ (congrArg Value.bool (by rw [c26];rfl)) ?_)
   refine Qag (Qab (Qaa (Qad (V:=.bool false) rfl (Qae (Qaw ?_)))))
   refine ⟨_,Qao (V:=.bool false) Tryz.results73 rfl,(Zr hs (congrArg Value.bool (Qc4 (i:=k2) (by omega) ?_).symm))⟩
   unfold Qku QjT;rw [c26];simp
  replace c26:=Qbq c26
  refine Qag (Qab (Qaa (Qaf Qd3 rfl (Qaa (QbP (vs:=vc s.known) Qbs hs 0 rfl rfl rfl rfl (Qaa (Qaf QbL rfl (Qaa (QbP (vs:=dc ((gd s.ents k2).dot)) QcH hs 2 rfl rfl rfl rfl (Qaa (Qav (vs:=[.agg (vc s.known).toArray,.agg (dc ((gd s.ents k2).dot)).toArray]) (V:=.bool (Qbu s.known ((gd s.ents k2).dot))) Qnu rfl rfl ?hc hs fun w27 hs=>?_)))))))))))
  case hc=>exact (Qgz _ s.known ((gd s.ents k2).dot) (by first|assumption|exact QcN (by omega) (by omega) (by omega) (by omega)))
  refine Qaa (Qbw rfl (Qaa (Qad (V:=.bool (!(Qbu s.known ((gd s.ents k2).dot)))) rfl (Qae (Qam (t:=!(Qbu s.known ((gd s.ents k2).dot))) rfl (fun c28=>?_) (fun c28=>?_))))))
  ·
   replace c28:=Qby c28
   refine Qaq (QcJ (congrArg Value.bool (by rw [c28];rfl)) ?_)
   refine Qag (Qab (Qaa (Qad (V:=.bool false) rfl (Qae (Qaw ?_)))))
   refine ⟨_,Qao (V:=.bool false) Tryz.results73 rfl,(Zr hs (congrArg Value.bool (Qc4 (i:=k2) (by omega) ?_).symm))⟩
   unfold Qku QjT;rw [c28];simp
  replace c28:=Qbq c28
  refine Qbv [some 80,some 81,some 82,some 83,some 84,some 85,some 86,some 87,some 67] [] [0,1,3,7,15,31,63,127,255] [pv (Pq b16 (0+6)),pv (.int .u64 ((gd s.ents k2).count)),pv (.bool (decide ((gd s.ents k2).count<1))),pv (.bool (decide ((gd s.ents k2).count<1))),pg ((decide ((gd s.ents k2).count<1)) == false) (Pq b16 (0+6)),pg ((decide ((gd s.ents k2).count<1)) == false) (.int .u64 ((gd s.ents k2).count)),pg ((decide ((gd s.ents k2).count<1)) == false) (.bool (decide (16777217<(gd s.ents k2).count))),pv (.bool ((decide ((gd s.ents k2).count<1))||(decide (16777217<(gd s.ents k2).count)))),pv (.bool ((decide ((gd s.ents k2).count<1))||(decide (16777217<(gd s.ents k2).count))))] (fun _ _=>_) [8] (by kernel_rfl) hs ⟨?_,?_,?_,?_,?_,?_,?_,?_,?_,trivial⟩ ?_
  ·exact oa [] fun D J w hs=>Qaf QfU rfl (Zz hs)
  ·exact oa [0] fun D J w hs=>QaQ (V:=.int .u64 ((gd s.ents k2).count)) QjX hs 2 rfl rfl rfl (Zz hs)
  ·exact oa [1] fun D J w hs=>Qa2 rfl rfl (Zz hs)
  ·exact oa [2] fun D J w hs=>Qac (V:=.bool (decide ((gd s.ents k2).count<1))) rfl (Zz hs)
  ·exact og [3] fun D J w hG hs=>Qaf QfU rfl (Zz hs)
  ·exact oy [3,4] [4] fun D J w hG hs=>QaQ (V:=.int .u64 ((gd s.ents k2).count)) QjX hs 2 rfl rfl rfl (Zz hs)
  ·exact oy [3,5] [5] fun D J w hG hs=>Qb2 rfl rfl (Zz hs)
  ·exact oa [3,6] fun D J w hs=>Qb4 (h':=decide (16777217<(gd s.ents k2).count)) rfl rfl rfl (Zz hs)
  ·exact oa [7] fun D J w hs=>Qad (V:=.bool ((decide ((gd s.ents k2).count<1))||(decide (16777217<(gd s.ents k2).count)))) rfl (Zz hs)
  rintro J1 w29 J2 hJ hs
  replace hJ:J2=upd (mix (sq 80 8++[67]) J1 _) 67 (.bool ((decide ((gd s.ents k2).count<1))||(decide (16777217<(gd s.ents k2).count)))):=hJ
  subst hJ
  refine Qam (t:=(decide ((gd s.ents k2).count<1))||(decide (16777217<(gd s.ents k2).count))) rfl (fun c30=>?_) (fun c30=>?_)
  ·
   refine Qag (Qab (Qaa (Qad (V:=.bool false) rfl (Qae (Qaw ?_)))))
   refine ⟨_,Qao (V:=.bool false) Tryz.results73 rfl,(Zr hs (congrArg Value.bool (Qc4 (i:=k2) (by omega) ?_).symm))⟩
   have hq:=c30
   unfold Qku QjT
   rcases Int.lt_or_le (gd s.ents k2).count 1 with q|q
   ·rw [QQ4 (p:=1<=_) (by omega)];simp
   rw [QQ4 (p:=_<=16777217) (by simp at hq;omega)];simp
  have c30r:=QfT c30
  replace c30:=QfR c30
  replace c30:=QQ2 c30
  replace c30r:=QQ2 c30r
  refine Qag (QaI HM [some 89,some 90,some 91,some 92,some 93,some 94,some 95,some 96,some 97,some 98,some 99,some 100,some 101,some 88] [] [0,1,3,7,15,7,39,127,255,7,1023,2047,4095,8191] [pv (I6 (k2:Int)),pv (.bool (decide (0<(k2:Int)))),pv (.bool (decide (0<(k2:Int)))),pg ((decide (0<(k2:Int))) == true) (Pq b1 (0+16)),pg ((decide (0<(k2:Int))) == true) (.slice a1 s.ents.length c1),pg ((decide (0<(k2:Int))) == true) (I6 (k2:Int)),pg ((decide (0<(k2:Int))) == true) (I6 ((k2-1:Nat):Int)),pg ((decide (0<(k2:Int))) == true) (.pointer (some ⟨bkS (.slice a1 s.ents.length c1),ofS (.slice a1 s.ents.length c1)+((k2-1:Nat):Int).toNat*7,none⟩)),pg ((decide (0<(k2:Int))) == true) (.agg (cec (gd s.ents (k2-1))).toArray),pg ((decide (0<(k2:Int))) == true) (.agg (cec (gd s.ents k2)).toArray),pg ((decide (0<(k2:Int))) == true) (I6 (QbQ (gd s.ents (k2-1)) (gd s.ents k2))),pg ((decide (0<(k2:Int))) == true) (.bool (decide (0<=QbQ (gd s.ents (k2-1)) (gd s.ents k2)))),pv (.bool ((decide (0<(k2:Int)))&&(decide (0<=QbQ (gd s.ents (k2-1)) (gd s.ents k2))))),pv (.bool ((decide (0<(k2:Int)))&&(decide (0<=QbQ (gd s.ents (k2-1)) (gd s.ents k2)))))] (fun _ _=>_) [13] (by kernel_rfl) hs ⟨?_,?_,?_,?_,?_,?_,?_,?_,?_,?_,?_,?_,?_,?_,trivial⟩ ?_)
  ·exact oa [] fun D J w hs=>Qac (V:=.int .i64 (k2:Int)) rfl (Zz hs)
  ·exact oa [0] fun D J w hs=>Qb2 rfl rfl (Zz hs)
  ·exact oa [1] fun D J w hs=>Qac (V:=.bool (decide (0<(k2:Int)))) rfl (Zz hs)
  ·exact og [2] fun D J w hG hs=>Qaf Qdb rfl (Zz hs)
  ·exact oy [2,3] [3] fun D J w hG hs=>QaQ (V:=.slice a1 s.ents.length c1) Qf6 hs 0 rfl rfl rfl (Zz hs)
  ·exact og [2] fun D J w hG hs=>Qac (V:=.int .i64 (k2:Int)) rfl (Zz hs)
  ·refine oy [2,5] [5] fun D J w hG hs=>?_
   have hgd:=QQ1 (eq_of_beq (hG))
   exact Qa6 (a:=(k2:Int)) (b:=1) (c:=((k2-1:Nat):Int)) rfl rfl (Qak (by omega) (by omega)) (Zz hs)
  ·refine oy [2,4,6] [4,6] fun D J w hG hs=>?_
   have hgd:=QQ1 (eq_of_beq (hG))
   exact Qax QbD QaD.1 (Rd.own' hr1 hs) rfl rfl (by omega) (by rw [QQ6];omega) (Zz hs)
  ·refine oy [2,7] [7] fun D J w hG hs=>?_
   have hgd:=QQ1 (eq_of_beq (hG))
   exact Qbb (j:=0) (vs:=cec (gd s.ents (k2-1))) (k2-1) QaD (Rd.own' hr1 hs) (Qba (by omega)) rfl rfl rfl (by omega) (Zz hs)
  ·exact og [2] fun D J w hG hs=>QaP (cs:=cec (gd s.ents k2)) QaD hs 2 rfl rfl rfl (Zz hs)
  ·exact oy [2,8,9] [8,9] fun D J w hG hs=>Qav (vs:=[.agg (cec (gd s.ents (k2-1))).toArray,.agg (cec (gd s.ents k2)).toArray]) (V:=.int .i64 (QbQ (gd s.ents (k2-1)) (gd s.ents k2))) Qqv rfl rfl (Qkk _ (gd s.ents (k2-1)) (gd s.ents k2)) hs fun _ hs=>Zz hs
  ·exact oy [2,10] [10] fun D J w hG hs=>QcY rfl rfl (Zz hs)
  ·exact oa [2,11] fun D J w hs=>Qbj (h':=decide (0<=QbQ (gd s.ents (k2-1)) (gd s.ents k2))) rfl rfl rfl (Zz hs)
  ·exact oa [12] fun D J w hs=>Qad (V:=.bool ((decide (0<(k2:Int)))&&(decide (0<=QbQ (gd s.ents (k2-1)) (gd s.ents k2))))) rfl (Zz hs)
  rintro J1 w32 J2 hJ hs
  replace hJ:J2=upd (mix (sq 89 13++[88]) J1 _) 88 (.bool ((decide (0<(k2:Int)))&&(decide (0<=QbQ (gd s.ents (k2-1)) (gd s.ents k2))))):=hJ
  subst hJ
  refine Qam (t:=(decide (0<(k2:Int)))&&(decide (0<=QbQ (gd s.ents (k2-1)) (gd s.ents k2)))) rfl (fun c33=>?_) (fun c33=>?_)
  ·
   have c33r:=QcB c33
   replace c33:=Qb1 c33
   replace c33:=QQ1 c33
   replace c33r:=QQ1 c33r
   refine Qag (Qab (Qaa (Qad (V:=.bool false) rfl (Qae (Qaw ?_)))))
   refine ⟨_,Qao (V:=.bool false) Tryz.results73 rfl,(Zr hs (congrArg Value.bool (Qc4 (i:=k2) (by omega) ?_).symm))⟩
   have hq:=QQ3 c33r
   rw [Qks] at hq
   unfold Qku
   rw [hq,QQ3 (by omega:0<k2)]
   simp
  refine Qaq (Qab (Qaa (Qac (V:=.map (some mr12)) rfl (Qaa (Qaf QbL rfl (Qaa (QbP (vs:=dc ((gd s.ents k2).dot)) QcH hs 2 rfl rfl rfl rfl (Qaa (QbI (vs:=[]) (cs:=[]) QpX (rfl) rfl (Qaa (QfV (k:=(gd s.ents k2).dot) (v:=()) Qko Qn5 hs 1 rfl rfl rfl rfl fun w34 hs=>(Qae (Qab (Qaa (QaF (a:=(k2:Int)) (b:=1) (c:=((k2+1:Nat):Int)) rfl rfl (Qak (by omega) (by omega)) (Qaa (Qac (V:=I6 ((k2+1:Nat):Int)) rfl (Qae ?_))))))))))))))))))
  have hbk:Qku s k2=false:=by
   unfold Qku QjT
   rw [c23,c26,c28,QQ3 (p:=1<=_) (by omega),QQ3 (p:=_<=16777217) (by omega),← Qh4,← hsm,c24]
   have hq:=c33
   rw [Qks] at hq
   simpa using hq
  refine ⟨_,?_,_,k2+1,mput ((gd s.ents k2).dot) () sm,Qal (Qap (ds:=([2]++sq 6 6++sq 48 59)) (by repeat (first|exact Agr.refl _ _|refine Agr.upd ?_ rfl|refine Agr.mix ?_ rfl))) rfl,(by omega),(Qdi hbe hbk),(by rw [Qk0 (by omega),← hsm]),rfl,hs.take 2⟩
  omega
 replace c15:=QQ2 c15
 refine QaL (Qag (Qab (Qaa (Qad (V:=.bool true) rfl (Qae (Qaw ?_))))))
 refine ⟨_,Qao (V:=.bool true) Tryz.results73 rfl,(Zr hs ?_)⟩
 exact congrArg Value.bool (Qcx.2 (Qig c4 hbt2 fun j hj=>hbe j (by omega))).symm
end Tt
end Go.Proofs
namespace Go.Proofs
open Go Go.Vx Go.RowKit
namespace Tt
theorem QpG (w:World) (o:Opn):Calls Tryz.prog 90 #[.agg (oc o).toArray] w (fun e w'=>e = .returned (.bool (Qbz o))/\Own w no w' []):=by
 refine Qaj (n:=16) Tryz.func90 rfl Tryz.ntmps90 rfl ?_
 have hs:=Own.start w
 refine Qag (Qab (Qaa (Qa5 (V:=.agg (oc o).toArray) (cs:=oc o) rfl rfl hs fun b1 w2 hs=>(Qaa (Qad (V:=.bool false) rfl (Qae (Qag (Qbv [some 3,some 4,some 5,some 6,some 7,some 8,some 9,some 10,some 11,some 12,some 13,some 14,some 15,some 2] [] [0,1,3,7,15,31,63,127,255,511,1023,2047,4095,8191] [pv (Pq b1 (0+2)),pv (.int .u8 o.kind),pv (.bool (decide (o.kind=1))),pv (.bool (decide (o.kind=1))),pg ((decide (o.kind=1)) == false) (Pq b1 (0+2)),pg ((decide (o.kind=1)) == false) (.int .u8 o.kind),pg ((decide (o.kind=1)) == false) (.bool (decide (o.kind=2))),pv (.bool ((decide (o.kind=1))||(decide (o.kind=2)))),pv (.bool ((decide (o.kind=1))||(decide (o.kind=2)))),pg (((decide (o.kind=1))||(decide (o.kind=2))) == false) (Pq b1 (0+2)),pg (((decide (o.kind=1))||(decide (o.kind=2))) == false) (.int .u8 o.kind),pg (((decide (o.kind=1))||(decide (o.kind=2))) == false) (.bool (decide (o.kind=4))),pv (.bool (((decide (o.kind=1))||(decide (o.kind=2)))||(decide (o.kind=4)))),pv (.bool (((decide (o.kind=1))||(decide (o.kind=2)))||(decide (o.kind=4))))] (fun _ _=>_) [13] (by kernel_rfl) hs ⟨?_,?_,?_,?_,?_,?_,?_,?_,?_,?_,?_,?_,?_,?_,trivial⟩ ?_))))))))
 ·exact oa [] fun D J w hs=>Qaf Qcf rfl (Zz hs)
 ·exact oa [0] fun D J w hs=>QaQ (V:=.int .u8 o.kind) QdF hs 0 rfl rfl rfl (Zz hs)
 ·exact oa [1] fun D J w hs=>Qa1 rfl rfl (Zz hs)
 ·exact oa [2] fun D J w hs=>Qac (V:=.bool (decide (o.kind=1))) rfl (Zz hs)
 ·exact og [3] fun D J w hG hs=>Qaf Qcf rfl (Zz hs)
 ·exact oy [3,4] [4] fun D J w hG hs=>QaQ (V:=.int .u8 o.kind) QdF hs 0 rfl rfl rfl (Zz hs)
 ·exact oy [3,5] [5] fun D J w hG hs=>Qa1 rfl rfl (Zz hs)
 ·exact oa [3,6] fun D J w hs=>Qb4 (h':=decide (o.kind=2)) rfl rfl rfl (Zz hs)
 ·exact oa [7] fun D J w hs=>Qac (V:=.bool ((decide (o.kind=1))||(decide (o.kind=2)))) rfl (Zz hs)
 ·exact og [8] fun D J w hG hs=>Qaf Qcf rfl (Zz hs)
 ·exact oy [8,9] [9] fun D J w hG hs=>QaQ (V:=.int .u8 o.kind) QdF hs 0 rfl rfl rfl (Zz hs)
 ·exact oy [8,10] [10] fun D J w hG hs=>Qa1 rfl rfl (Zz hs)
 ·exact oa [8,11] fun D J w hs=>Qb4 (h':=decide (o.kind=4)) rfl rfl rfl (Zz hs)
 ·exact oa [12] fun D J w hs=>Qad (V:=.bool (((decide (o.kind=1))||(decide (o.kind=2)))||(decide (o.kind=4)))) rfl (Zz hs)
 rintro J1 w3 J2 hJ hs
 replace hJ:J2=upd (mix (sq 3 13++[2]) J1 _) 2 (.bool (((decide (o.kind=1))||(decide (o.kind=2)))||(decide (o.kind=4)))):=hJ
 subst hJ
 refine Qaw ?_
 refine ⟨_,Qao (V:=.bool (((decide (o.kind=1))||(decide (o.kind=2)))||(decide (o.kind=4)))) Tryz.results90 rfl,(Zr hs ?_)⟩
 rfl
theorem QhS (w:World) (o:Opn) (ho:QbN o.ctx):Calls Tryz.prog 41 #[.agg (oc o).toArray] w (fun e w'=>e = .returned (.int .u64 (QbF o))/\Own w no w' []):=by
 refine Qaj (n:=7) Tryz.func41 rfl Tryz.ntmps41 rfl ?_
 have hs:=Own.start w
 refine Qag (Qab (Qaa (Qa5 (V:=.agg (oc o).toArray) (cs:=oc o) rfl rfl hs fun b1 w2 hs=>(Qaa (Qad (V:=.int .u64 0) rfl (Qae (Qag ?_)))))))
 have hb:=QlD ho
 refine Qab (Qaa (Qaf QcL rfl (Qaa (QbP (vs:=vc o.ctx) Qbs hs 0 rfl rfl rfl rfl (Qaa (Qav (vs:=[.agg (vc o.ctx).toArray]) (V:=.int .u64 (vsum o.ctx)) Qvp rfl rfl ?hc hs fun w3 hs=>?_))))))
 case hc=>exact (Qsc _ o.ctx (by first|assumption|exact QcC))
 refine Qaa (QaF (a:=vsum o.ctx) (b:=1) (c:=(vsum o.ctx)+1) rfl rfl (QdQ (by omega) (by omega)) (Qaa (Qad (V:=.int .u64 ((vsum o.ctx)+1)) rfl (Qae (Qaw ?_)))))
 refine ⟨_,Qao (V:=.int .u64 ((vsum o.ctx)+1)) Tryz.results41 rfl,(Zr hs ?_)⟩
 rfl
theorem Qj3 (w:World) (o e:Opn) (he:Qc9 e.dot):Calls Tryz.prog 46 #[.agg (oc o).toArray,.agg (oc e).toArray] w (fun r w'=>r = .returned (.bool (QaE o e))/\Own w no w' []):=by
 refine Qaj (n:=40) Tryz.func46 rfl Tryz.ntmps46 rfl ?_
 have hs:=Own.start w
 refine Qag (Qab (Qaa (Qa5 (V:=.agg (oc o).toArray) (cs:=oc o) rfl rfl hs fun b1 w2 hs=>(Qaa (Qa5 (V:=.agg (oc e).toArray) (cs:=oc e) rfl rfl hs fun b3 w4 hs=>(Qaa (Qad (V:=.bool false) rfl (Qae (Qag (Qag (Qbv [some 5,some 6,some 7,some 8,some 9,some 10,some 11,some 12,some 13,some 14,some 15,some 16,some 17,some 18,some 19,some 20,some 21,some 22] [] [0,1,3,7,15,31,15,79,255,511,1023,2047,4095,2047,10239,32767,65535,131071] [pv (.agg (oc e).toArray),pv (.bool (Qbz e)),pv (.bool (!(Qbz e))),pv (.bool (!(Qbz e))),pg ((!(Qbz e)) == false) (Pq b1 (0+3)),pg ((!(Qbz e)) == false) (I7 o.cart),pg ((!(Qbz e)) == false) (Pq b3 (0+3)),pg ((!(Qbz e)) == false) (I7 e.cart),pg ((!(Qbz e)) == false) (.bool (!decide (o.cart=e.cart))),pv (.bool ((!(Qbz e))||(!decide (o.cart=e.cart)))),pv (.bool ((!(Qbz e))||(!decide (o.cart=e.cart)))),pg (((!(Qbz e))||(!decide (o.cart=e.cart))) == false) (Pq b1 (0+7)),pg (((!(Qbz e))||(!decide (o.cart=e.cart))) == false) (.agg (vc o.ctx).toArray),pg (((!(Qbz e))||(!decide (o.cart=e.cart))) == false) (Pq b3 (0+0)),pg (((!(Qbz e))||(!decide (o.cart=e.cart))) == false) (.agg (dc e.dot).toArray),pg (((!(Qbz e))||(!decide (o.cart=e.cart))) == false) (.bool (Qbu o.ctx e.dot)),pg (((!(Qbz e))||(!decide (o.cart=e.cart))) == false) (.bool (!(Qbu o.ctx e.dot))),pv (.bool (((!(Qbz e))||(!decide (o.cart=e.cart)))||(!(Qbu o.ctx e.dot))))] (fun _ _=>_) [17] (by kernel_rfl) hs ⟨?_,?_,?_,?_,?_,?_,?_,?_,?_,?_,?_,?_,?_,?_,?_,?_,?_,?_,trivial⟩ ?_)))))))))))
 ·exact oa [] fun D J w hs=>QaP (cs:=oc e) QbC hs 1 rfl rfl rfl (Zz hs)
 ·exact oa [0] fun D J w hs=>Qav (vs:=[.agg (oc e).toArray]) (V:=.bool (Qbz e)) QvJ rfl rfl (QpG _ e) hs fun _ hs=>Zz hs
 ·exact oa [1] fun D J w hs=>Qbw rfl (Zz hs)
 ·exact oa [2] fun D J w hs=>Qac (V:=.bool (!(Qbz e))) rfl (Zz hs)
 ·exact og [3] fun D J w hG hs=>Qaf QeA rfl (Zz hs)
 ·exact oy [3,4] [4] fun D J w hG hs=>QaQ (V:=.int .u16 o.cart) Qat hs 0 rfl rfl rfl (Zz hs)
 ·exact og [3] fun D J w hG hs=>Qaf QeA rfl (Zz hs)
 ·exact oy [3,6] [6] fun D J w hG hs=>QaQ (V:=.int .u16 e.cart) Qat hs 1 rfl rfl rfl (Zz hs)
 ·exact oy [3,5,7] [5,7] fun D J w hG hs=>Qcq rfl rfl (Zz hs)
 ·exact oa [3,8] fun D J w hs=>Qb4 (h':=!decide (o.cart=e.cart)) rfl rfl rfl (Zz hs)
 ·exact oa [9] fun D J w hs=>Qac (V:=.bool ((!(Qbz e))||(!decide (o.cart=e.cart)))) rfl (Zz hs)
 ·exact og [10] fun D J w hG hs=>Qaf QcL rfl (Zz hs)
 ·exact oy [10,11] [11] fun D J w hG hs=>QbP (vs:=vc o.ctx) Qbs hs 0 rfl rfl rfl rfl (Zz hs)
 ·exact og [10] fun D J w hG hs=>Qaf Qbp rfl (Zz hs)
 ·exact oy [10,13] [13] fun D J w hG hs=>QbP (vs:=dc e.dot) QcH hs 1 rfl rfl rfl rfl (Zz hs)
 ·exact oy [10,12,14] [12,14] fun D J w hG hs=>Qav (vs:=[.agg (vc o.ctx).toArray,.agg (dc e.dot).toArray]) (V:=.bool (Qbu o.ctx e.dot)) Qnu rfl rfl (Qgz _ o.ctx e.dot (by first|assumption|exact QcN (by omega) (by omega) (by omega) (by omega))) hs fun _ hs=>Zz hs
 ·exact oy [10,15] [15] fun D J w hG hs=>Qbw rfl (Zz hs)
 ·exact oa [10,16] fun D J w hs=>Qb4 (h':=!(Qbu o.ctx e.dot)) rfl rfl rfl (Zz hs)
 rintro J1 w7 J2 hJ hs
 replace hJ:J2=upd (mix (sq 5 18) J1 _) 22 (.bool (((!(Qbz e))||(!decide (o.cart=e.cart)))||(!(Qbu o.ctx e.dot)))):=hJ
 subst hJ
 refine Qam (t:=((!(Qbz e))||(!decide (o.cart=e.cart)))||(!(Qbu o.ctx e.dot))) rfl (fun c8=>?_) (fun c8=>?_)
 ·
  refine Qag (Qab (Qaa (Qad (V:=.bool false) rfl (Qae (Qaw ?_)))))
  refine ⟨_,Qao (V:=.bool false) Tryz.results46 rfl,(Zr hs ?_)⟩
  exact congrArg Value.bool (Qsg c8).symm
 have c8r:=QfT c8
 replace c8:=QfR c8
 have c8rr:=QfT c8
 replace c8:=QfR c8
 replace c8:=Qbq c8
 replace c8rr:=Qbq c8rr
 replace c8rr:=QQ1 c8rr
 replace c8r:=Qbq c8r
 refine Qaq (Qag (Qag (Qab (Qaa (Qaf Qcf rfl (Qaa (QaQ (V:=.int .u8 o.kind) QdF hs 0 rfl rfl rfl (Qae (Qan (Qag (Qab (Qaa (Qa1 rfl rfl (Qaa (Qad (V:=.bool (decide (o.kind=5))) rfl (Qae (Qam (t:=decide (o.kind=5)) rfl (fun c9=>?_) (fun c9=>?_))))))))))))))))))
 ·
  replace c9:=QQ1 c9
  refine Qag (Qab (Qaa (Qad (V:=.bool true) rfl (Qae (Qaw ?_)))))
  refine ⟨_,Qao (V:=.bool true) Tryz.results46 rfl,(Zr hs ?_)⟩
  rw [QhG c8 c8rr c8r]
  refine congrArg Value.bool ?_
  simp_all
 replace c9:=QQ2 c9
 refine Qag (Qag (Qab (Qaa (Qa1 rfl rfl (Qaa (Qad (V:=.bool (decide (o.kind=3))) rfl (Qae (Qam (t:=decide (o.kind=3)) rfl (fun c10=>?_) (fun c10=>?_)))))))))
 ·
  replace c10:=QQ1 c10
  refine Qaq (QcJ (congrArg Value.bool (QQ3 c10)) ?_)
  refine Qag (Qbv [some 30,some 31,some 32,some 33,some 34,some 35,some 36,some 37,some 38,some 39,some 4] [] [0,1,3,7,15,31,15,79,255,511,1023] [pv (Pq b3 (0+2)),pv (.int .u8 e.kind),pv (.bool (!decide (e.kind=4))),pv (.bool (!decide (e.kind=4))),pg ((!decide (e.kind=4)) == true) (Pq b1 (0+4)),pg ((!decide (e.kind=4)) == true) (I7 o.item),pg ((!decide (e.kind=4)) == true) (Pq b3 (0+4)),pg ((!decide (e.kind=4)) == true) (I7 e.item),pg ((!decide (e.kind=4)) == true) (.bool (decide (o.item=e.item))),pv (.bool ((!decide (e.kind=4))&&(decide (o.item=e.item)))),pv (.bool ((!decide (e.kind=4))&&(decide (o.item=e.item))))] (fun _ _=>_) [10] (by kernel_rfl) hs ⟨?_,?_,?_,?_,?_,?_,?_,?_,?_,?_,?_,trivial⟩ ?_)
  ·exact oa [] fun D J w hs=>Qaf Qcf rfl (Zz hs)
  ·exact oa [0] fun D J w hs=>QaQ (V:=.int .u8 e.kind) QdF hs 1 rfl rfl rfl (Zz hs)
  ·exact oa [1] fun D J w hs=>Qcq rfl rfl (Zz hs)
  ·exact oa [2] fun D J w hs=>Qac (V:=.bool (!decide (e.kind=4))) rfl (Zz hs)
  ·exact og [3] fun D J w hG hs=>Qaf Qdn rfl (Zz hs)
  ·exact oy [3,4] [4] fun D J w hG hs=>QaQ (V:=.int .u16 o.item) Qat hs 0 rfl rfl rfl (Zz hs)
  ·exact og [3] fun D J w hG hs=>Qaf Qdn rfl (Zz hs)
  ·exact oy [3,6] [6] fun D J w hG hs=>QaQ (V:=.int .u16 e.item) Qat hs 1 rfl rfl rfl (Zz hs)
  ·exact oy [3,5,7] [5,7] fun D J w hG hs=>Qa1 rfl rfl (Zz hs)
  ·exact oa [3,8] fun D J w hs=>Qbj (h':=decide (o.item=e.item)) rfl rfl rfl (Zz hs)
  ·exact oa [9] fun D J w hs=>Qad (V:=.bool ((!decide (e.kind=4))&&(decide (o.item=e.item)))) rfl (Zz hs)
  rintro J1 w11 J2 hJ hs
  replace hJ:J2=upd (mix (sq 30 10++[4]) J1 _) 4 (.bool ((!decide (e.kind=4))&&(decide (o.item=e.item)))):=hJ
  subst hJ
  refine Qaw ?_
  refine ⟨_,Qao (V:=.bool ((!decide (e.kind=4))&&(decide (o.item=e.item)))) Tryz.results46 rfl,(Zr hs ?_)⟩
  rw [QhG c8 c8rr c8r]
  refine congrArg Value.bool ?_
  simp_all
 replace c10:=QQ2 c10
 refine Qab (Qaa (Qa1 rfl rfl (Qaa (Qad (V:=.bool (decide (o.kind=2))) rfl (Qae (Qam (t:=decide (o.kind=2)) rfl (fun c12=>?_) (fun c12=>?_)))))))
 ·
  replace c12:=QQ1 c12
  refine Qag (Qbv [some 30,some 31,some 32,some 33,some 34,some 35,some 36,some 37,some 38,some 39,some 4] [] [0,1,3,7,15,31,15,79,255,511,1023] [pv (Pq b3 (0+2)),pv (.int .u8 e.kind),pv (.bool (!decide (e.kind=4))),pv (.bool (!decide (e.kind=4))),pg ((!decide (e.kind=4)) == true) (Pq b1 (0+4)),pg ((!decide (e.kind=4)) == true) (I7 o.item),pg ((!decide (e.kind=4)) == true) (Pq b3 (0+4)),pg ((!decide (e.kind=4)) == true) (I7 e.item),pg ((!decide (e.kind=4)) == true) (.bool (decide (o.item=e.item))),pv (.bool ((!decide (e.kind=4))&&(decide (o.item=e.item)))),pv (.bool ((!decide (e.kind=4))&&(decide (o.item=e.item))))] (fun _ _=>_) [10] (by kernel_rfl) hs ⟨?_,?_,?_,?_,?_,?_,?_,?_,?_,?_,?_,trivial⟩ ?_)
  ·exact oa [] fun D J w hs=>Qaf Qcf rfl (Zz hs)
  ·exact oa [0] fun D J w hs=>QaQ (V:=.int .u8 e.kind) QdF hs 1 rfl rfl rfl (Zz hs)
  ·exact oa [1] fun D J w hs=>Qcq rfl rfl (Zz hs)
  ·exact oa [2] fun D J w hs=>Qac (V:=.bool (!decide (e.kind=4))) rfl (Zz hs)
  ·exact og [3] fun D J w hG hs=>Qaf Qdn rfl (Zz hs)
  ·exact oy [3,4] [4] fun D J w hG hs=>QaQ (V:=.int .u16 o.item) Qat hs 0 rfl rfl rfl (Zz hs)
  ·exact og [3] fun D J w hG hs=>Qaf Qdn rfl (Zz hs)
  ·exact oy [3,6] [6] fun D J w hG hs=>QaQ (V:=.int .u16 e.item) Qat hs 1 rfl rfl rfl (Zz hs)
  ·exact oy [3,5,7] [5,7] fun D J w hG hs=>Qa1 rfl rfl (Zz hs)
  ·exact oa [3,8] fun D J w hs=>Qbj (h':=decide (o.item=e.item)) rfl rfl rfl (Zz hs)
  ·exact oa [9] fun D J w hs=>Qad (V:=.bool ((!decide (e.kind=4))&&(decide (o.item=e.item)))) rfl (Zz hs)
  rintro J1 w13 J2 hJ hs
  replace hJ:J2=upd (mix (sq 30 10++[4]) J1 _) 4 (.bool ((!decide (e.kind=4))&&(decide (o.item=e.item)))):=hJ
  subst hJ
  refine Qaw ?_
  refine ⟨_,Qao (V:=.bool ((!decide (e.kind=4))&&(decide (o.item=e.item)))) Tryz.results46 rfl,(Zr hs ?_)⟩
  rw [QhG c8 c8rr c8r]
  refine congrArg Value.bool ?_
  simp_all
 replace c12:=QQ2 c12
 refine Qaq (Qag (Qab (Qaa (Qad (V:=.bool false) rfl (Qae (Qaw ?_))))))
 refine ⟨_,Qao (V:=.bool false) Tryz.results46 rfl,(Zr hs ?_)⟩
 rw [QhG c8 c8rr c8r]
 refine congrArg Value.bool ?_
 simp_all
theorem Qo2 (w:World) (o:Opn) (ho:Qcc o):Calls Tryz.prog 151 #[.agg (oc o).toArray] w (fun e w'=>e = .returned (.bool (Qb7 o))/\Own w no w' []):=by
 refine Qaj (n:=28) Tryz.func151 rfl Tryz.ntmps151 rfl ?_
 have hs:=Own.start w
 refine Qag (Qab (Qaa (Qa5 (V:=.agg (oc o).toArray) (cs:=oc o) rfl rfl hs fun b1 w2 hs=>(Qaa (Qad (V:=.bool false) rfl (Qae (Qag (Qag (Qab (Qaa (Qaf Qcf rfl (Qaa (QaQ (V:=.int .u8 o.kind) QdF hs 0 rfl rfl rfl (Qae (Qan (Qag (Qab (Qaa (Qa1 rfl rfl (Qaa (Qad (V:=.bool (decide (o.kind=1))) rfl (Qae (Qam (t:=decide (o.kind=1)) rfl (fun c3=>?_) (fun c3=>?_))))))))))))))))))))))))
 ·
  replace c3:=QQ1 c3
  refine Qag (Qab (Qaa (Qaf Qdr rfl (Qaa (QaQ (V:=I7 o.qty) Qat hs 0 rfl rfl rfl (Qaa (Qb2 rfl rfl (Qaa (Qad (V:=.bool (decide (0<o.qty))) rfl (Qae (Qaw ?_)))))))))))
  refine ⟨_,Qao (V:=.bool (decide (0<o.qty))) Tryz.results151 rfl,(Zr hs (congrArg Value.bool ?_))⟩
  unfold Qb7
  have ⟨_,_,_,_,⟨hq1,hq2⟩,_,_⟩:=ho
  simp_all
  try omega
 replace c3:=QQ2 c3
 refine Qag (Qab (Qaa (Qa1 rfl rfl (Qaa (Qad (V:=.bool (decide (o.kind=2))) rfl (Qae (Qam (t:=decide (o.kind=2)) rfl (fun c4=>?_) (fun c4=>?_))))))))
 ·
  replace c4:=QQ1 c4
  refine Qag (Qab (Qaa (Qad (V:=.bool true) rfl (Qae (Qaw ?_)))))
  refine ⟨_,Qao (V:=.bool true) Tryz.results151 rfl,(Zr hs (congrArg Value.bool ?_))⟩
  unfold Qb7
  have ⟨_,_,_,_,⟨hq1,hq2⟩,_,_⟩:=ho
  simp_all
  try omega
 replace c4:=QQ2 c4
 refine Qag (Qab (Qaa (Qa1 rfl rfl (Qaa (Qad (V:=.bool (decide (o.kind=3))) rfl (Qae (Qam (t:=decide (o.kind=3)) rfl (fun c5=>?_) (fun c5=>?_))))))))
 ·
  replace c5:=QQ1 c5
  refine Qag (Qab (Qaa (Qaf Qdr rfl (Qaa (QaQ (V:=I7 o.qty) Qat hs 0 rfl rfl rfl (Qaa (Qa1 rfl rfl (Qaa (Qad (V:=.bool (decide (o.qty=0))) rfl (Qae (Qaw ?_)))))))))))
  refine ⟨_,Qao (V:=.bool (decide (o.qty=0))) Tryz.results151 rfl,(Zr hs (congrArg Value.bool ?_))⟩
  unfold Qb7
  have ⟨_,_,_,_,⟨hq1,hq2⟩,_,_⟩:=ho
  simp_all
  try omega
 replace c5:=QQ2 c5
 refine Qag (Qag (Qab (Qaa (Qa1 rfl rfl (Qaa (Qad (V:=.bool (decide (o.kind=4))) rfl (Qae (Qam (t:=decide (o.kind=4)) rfl (fun c6=>?_) (fun c6=>?_)))))))))
 ·
  replace c6:=QQ1 c6
  refine Qaq (QcJ (congrArg Value.bool (QQ3 c6)) ?_)
  refine Qag (Qbv [some 20,some 21,some 22,some 23,some 24,some 25,some 26,some 27,some 2] [] [0,1,3,7,15,31,63,127,255] [pv (Pq b1 (0+4)),pv (I7 o.item),pv (.bool (decide (o.item=0))),pv (.bool (decide (o.item=0))),pg ((decide (o.item=0)) == true) (Pq b1 (0+5)),pg ((decide (o.item=0)) == true) (I7 o.qty),pg ((decide (o.item=0)) == true) (.bool (decide (o.qty=0))),pv (.bool ((decide (o.item=0))&&(decide (o.qty=0)))),pv (.bool ((decide (o.item=0))&&(decide (o.qty=0))))] (fun _ _=>_) [8] (by kernel_rfl) hs ⟨?_,?_,?_,?_,?_,?_,?_,?_,?_,trivial⟩ ?_)
  ·exact oa [] fun D J w hs=>Qaf Qdn rfl (Zz hs)
  ·exact oa [0] fun D J w hs=>QaQ (V:=.int .u16 o.item) Qat hs 0 rfl rfl rfl (Zz hs)
  ·exact oa [1] fun D J w hs=>Qa1 rfl rfl (Zz hs)
  ·exact oa [2] fun D J w hs=>Qac (V:=.bool (decide (o.item=0))) rfl (Zz hs)
  ·exact og [3] fun D J w hG hs=>Qaf Qdr rfl (Zz hs)
  ·exact oy [3,4] [4] fun D J w hG hs=>QaQ (V:=.int .u16 o.qty) Qat hs 0 rfl rfl rfl (Zz hs)
  ·exact oy [3,5] [5] fun D J w hG hs=>Qa1 rfl rfl (Zz hs)
  ·exact oa [3,6] fun D J w hs=>Qbj (h':=decide (o.qty=0)) rfl rfl rfl (Zz hs)
  ·exact oa [7] fun D J w hs=>Qad (V:=.bool ((decide (o.item=0))&&(decide (o.qty=0)))) rfl (Zz hs)
  rintro J1 w7 J2 hJ hs
  replace hJ:J2=upd (mix (sq 20 8++[2]) J1 _) 2 (.bool ((decide (o.item=0))&&(decide (o.qty=0)))):=hJ
  subst hJ
  refine Qaw ?_
  refine ⟨_,Qao (V:=.bool ((decide (o.item=0))&&(decide (o.qty=0)))) Tryz.results151 rfl,(Zr hs (congrArg Value.bool ?_))⟩
  unfold Qb7
  have ⟨_,_,_,_,⟨hq1,hq2⟩,_,_⟩:=ho
  simp_all
  try omega
 replace c6:=QQ2 c6
 refine Qab (Qaa (Qa1 rfl rfl (Qaa (Qad (V:=.bool (decide (o.kind=5))) rfl (Qae (Qam (t:=decide (o.kind=5)) rfl (fun c8=>?_) (fun c8=>?_)))))))
 ·
  replace c8:=QQ1 c8
  refine Qag (Qbv [some 20,some 21,some 22,some 23,some 24,some 25,some 26,some 27,some 2] [] [0,1,3,7,15,31,63,127,255] [pv (Pq b1 (0+4)),pv (I7 o.item),pv (.bool (decide (o.item=0))),pv (.bool (decide (o.item=0))),pg ((decide (o.item=0)) == true) (Pq b1 (0+5)),pg ((decide (o.item=0)) == true) (I7 o.qty),pg ((decide (o.item=0)) == true) (.bool (decide (o.qty=0))),pv (.bool ((decide (o.item=0))&&(decide (o.qty=0)))),pv (.bool ((decide (o.item=0))&&(decide (o.qty=0))))] (fun _ _=>_) [8] (by kernel_rfl) hs ⟨?_,?_,?_,?_,?_,?_,?_,?_,?_,trivial⟩ ?_)
  ·exact oa [] fun D J w hs=>Qaf Qdn rfl (Zz hs)
  ·exact oa [0] fun D J w hs=>QaQ (V:=.int .u16 o.item) Qat hs 0 rfl rfl rfl (Zz hs)
  ·exact oa [1] fun D J w hs=>Qa1 rfl rfl (Zz hs)
  ·exact oa [2] fun D J w hs=>Qac (V:=.bool (decide (o.item=0))) rfl (Zz hs)
  ·exact og [3] fun D J w hG hs=>Qaf Qdr rfl (Zz hs)
  ·exact oy [3,4] [4] fun D J w hG hs=>QaQ (V:=.int .u16 o.qty) Qat hs 0 rfl rfl rfl (Zz hs)
  ·exact oy [3,5] [5] fun D J w hG hs=>Qa1 rfl rfl (Zz hs)
  ·exact oa [3,6] fun D J w hs=>Qbj (h':=decide (o.qty=0)) rfl rfl rfl (Zz hs)
  ·exact oa [7] fun D J w hs=>Qad (V:=.bool ((decide (o.item=0))&&(decide (o.qty=0)))) rfl (Zz hs)
  rintro J1 w9 J2 hJ hs
  replace hJ:J2=upd (mix (sq 20 8++[2]) J1 _) 2 (.bool ((decide (o.item=0))&&(decide (o.qty=0)))):=hJ
  subst hJ
  refine Qaw ?_
  refine ⟨_,Qao (V:=.bool ((decide (o.item=0))&&(decide (o.qty=0)))) Tryz.results151 rfl,(Zr hs (congrArg Value.bool ?_))⟩
  unfold Qb7
  have ⟨_,_,_,_,⟨hq1,hq2⟩,_,_⟩:=ho
  simp_all
  try omega
 replace c8:=QQ2 c8
 refine Qaq (Qag (Qab (Qaa (Qad (V:=.bool false) rfl (Qae (Qaw ?_))))))
 refine ⟨_,Qao (V:=.bool false) Tryz.results151 rfl,(Zr hs (congrArg Value.bool ?_))⟩
 unfold Qb7
 have ⟨_,_,_,_,⟨hq1,hq2⟩,_,_⟩:=ho
 simp_all
 try omega
theorem Qn9 (w:World) (o:Opn) (ho:Qcc o):Calls Tryz.prog 152 #[.agg (oc o).toArray] w (fun e w'=>e = .returned (.bool (Qb7 o))/\Own w no w' []):=by
 refine Qaj (n:=28) Tryz.func152 rfl Tryz.ntmps152 rfl ?_
 have hs:=Own.start w
 refine Qag (Qab (Qaa (Qa5 (V:=.agg (oc o).toArray) (cs:=oc o) rfl rfl hs fun b1 w2 hs=>(Qaa (Qad (V:=.bool false) rfl (Qae (Qag (Qag (Qab (Qaa (Qaf Qcf rfl (Qaa (QaQ (V:=.int .u8 o.kind) QdF hs 0 rfl rfl rfl (Qae (Qan (Qag (Qab (Qaa (Qa1 rfl rfl (Qaa (Qad (V:=.bool (decide (o.kind=1))) rfl (Qae (Qam (t:=decide (o.kind=1)) rfl (fun c3=>?_) (fun c3=>?_))))))))))))))))))))))))
 ·
  replace c3:=QQ1 c3
  refine Qag (Qab (Qaa (Qaf Qdr rfl (Qaa (QaQ (V:=I7 o.qty) Qat hs 0 rfl rfl rfl (Qaa (QcY rfl rfl (Qaa (Qad (V:=.bool (decide (1<=o.qty))) rfl (Qae (Qaw ?_)))))))))))
  refine ⟨_,Qao (V:=.bool (decide (1<=o.qty))) Tryz.results152 rfl,(Zr hs (congrArg Value.bool ?_))⟩
  unfold Qb7
  have ⟨_,_,_,_,⟨hq1,hq2⟩,_,_⟩:=ho
  simp_all
  try omega
 replace c3:=QQ2 c3
 refine Qag (Qab (Qaa (Qa1 rfl rfl (Qaa (Qad (V:=.bool (decide (o.kind=2))) rfl (Qae (Qam (t:=decide (o.kind=2)) rfl (fun c4=>?_) (fun c4=>?_))))))))
 ·
  replace c4:=QQ1 c4
  refine Qag (Qab (Qaa (Qad (V:=.bool true) rfl (Qae (Qaw ?_)))))
  refine ⟨_,Qao (V:=.bool true) Tryz.results152 rfl,(Zr hs (congrArg Value.bool ?_))⟩
  unfold Qb7
  have ⟨_,_,_,_,⟨hq1,hq2⟩,_,_⟩:=ho
  simp_all
  try omega
 replace c4:=QQ2 c4
 refine Qag (Qab (Qaa (Qa1 rfl rfl (Qaa (Qad (V:=.bool (decide (o.kind=3))) rfl (Qae (Qam (t:=decide (o.kind=3)) rfl (fun c5=>?_) (fun c5=>?_))))))))
 ·
  replace c5:=QQ1 c5
  refine Qag (Qab (Qaa (Qaf Qdr rfl (Qaa (QaQ (V:=I7 o.qty) Qat hs 0 rfl rfl rfl (Qaa (Qa1 rfl rfl (Qaa (Qad (V:=.bool (decide (o.qty=0))) rfl (Qae (Qaw ?_)))))))))))
  refine ⟨_,Qao (V:=.bool (decide (o.qty=0))) Tryz.results152 rfl,(Zr hs (congrArg Value.bool ?_))⟩
  unfold Qb7
  have ⟨_,_,_,_,⟨hq1,hq2⟩,_,_⟩:=ho
  simp_all
  try omega
 replace c5:=QQ2 c5
 refine Qag (Qag (Qab (Qaa (Qa1 rfl rfl (Qaa (Qad (V:=.bool (decide (o.kind=4))) rfl (Qae (Qam (t:=decide (o.kind=4)) rfl (fun c6=>?_) (fun c6=>?_)))))))))
 ·
  replace c6:=QQ1 c6
  refine Qaq (QcJ (congrArg Value.bool (QQ3 c6)) ?_)
  refine Qag (Qbv [some 20,some 21,some 22,some 23,some 24,some 25,some 26,some 27,some 2] [] [0,1,3,7,15,31,63,127,255] [pv (Pq b1 (0+4)),pv (I7 o.item),pv (.bool (decide (o.item=0))),pv (.bool (decide (o.item=0))),pg ((decide (o.item=0)) == true) (Pq b1 (0+5)),pg ((decide (o.item=0)) == true) (I7 o.qty),pg ((decide (o.item=0)) == true) (.bool (decide (o.qty=0))),pv (.bool ((decide (o.item=0))&&(decide (o.qty=0)))),pv (.bool ((decide (o.item=0))&&(decide (o.qty=0))))] (fun _ _=>_) [8] (by kernel_rfl) hs ⟨?_,?_,?_,?_,?_,?_,?_,?_,?_,trivial⟩ ?_)
  ·exact oa [] fun D J w hs=>Qaf Qdn rfl (Zz hs)
  ·exact oa [0] fun D J w hs=>QaQ (V:=.int .u16 o.item) Qat hs 0 rfl rfl rfl (Zz hs)
  ·exact oa [1] fun D J w hs=>Qa1 rfl rfl (Zz hs)
  ·exact oa [2] fun D J w hs=>Qac (V:=.bool (decide (o.item=0))) rfl (Zz hs)
  ·exact og [3] fun D J w hG hs=>Qaf Qdr rfl (Zz hs)
  ·exact oy [3,4] [4] fun D J w hG hs=>QaQ (V:=.int .u16 o.qty) Qat hs 0 rfl rfl rfl (Zz hs)
  ·exact oy [3,5] [5] fun D J w hG hs=>Qa1 rfl rfl (Zz hs)
  ·exact oa [3,6] fun D J w hs=>Qbj (h':=decide (o.qty=0)) rfl rfl rfl (Zz hs)
  ·exact oa [7] fun D J w hs=>Qad (V:=.bool ((decide (o.item=0))&&(decide (o.qty=0)))) rfl (Zz hs)
  rintro J1 w7 J2 hJ hs
  replace hJ:J2=upd (mix (sq 20 8++[2]) J1 _) 2 (.bool ((decide (o.item=0))&&(decide (o.qty=0)))):=hJ
  subst hJ
  refine Qaw ?_
  refine ⟨_,Qao (V:=.bool ((decide (o.item=0))&&(decide (o.qty=0)))) Tryz.results152 rfl,(Zr hs (congrArg Value.bool ?_))⟩
  unfold Qb7
  have ⟨_,_,_,_,⟨hq1,hq2⟩,_,_⟩:=ho
  simp_all
  try omega
 replace c6:=QQ2 c6
 refine Qab (Qaa (Qa1 rfl rfl (Qaa (Qad (V:=.bool (decide (o.kind=5))) rfl (Qae (Qam (t:=decide (o.kind=5)) rfl (fun c8=>?_) (fun c8=>?_)))))))
 ·
  replace c8:=QQ1 c8
  refine Qag (Qbv [some 20,some 21,some 22,some 23,some 24,some 25,some 26,some 27,some 2] [] [0,1,3,7,15,31,63,127,255] [pv (Pq b1 (0+4)),pv (I7 o.item),pv (.bool (decide (o.item=0))),pv (.bool (decide (o.item=0))),pg ((decide (o.item=0)) == true) (Pq b1 (0+5)),pg ((decide (o.item=0)) == true) (I7 o.qty),pg ((decide (o.item=0)) == true) (.bool (decide (o.qty=0))),pv (.bool ((decide (o.item=0))&&(decide (o.qty=0)))),pv (.bool ((decide (o.item=0))&&(decide (o.qty=0))))] (fun _ _=>_) [8] (by kernel_rfl) hs ⟨?_,?_,?_,?_,?_,?_,?_,?_,?_,trivial⟩ ?_)
  ·exact oa [] fun D J w hs=>Qaf Qdn rfl (Zz hs)
  ·exact oa [0] fun D J w hs=>QaQ (V:=.int .u16 o.item) Qat hs 0 rfl rfl rfl (Zz hs)
  ·exact oa [1] fun D J w hs=>Qa1 rfl rfl (Zz hs)
  ·exact oa [2] fun D J w hs=>Qac (V:=.bool (decide (o.item=0))) rfl (Zz hs)
  ·exact og [3] fun D J w hG hs=>Qaf Qdr rfl (Zz hs)
  ·exact oy [3,4] [4] fun D J w hG hs=>QaQ (V:=.int .u16 o.qty) Qat hs 0 rfl rfl rfl (Zz hs)
  ·exact oy [3,5] [5] fun D J w hG hs=>Qa1 rfl rfl (Zz hs)
  ·exact oa [3,6] fun D J w hs=>Qbj (h':=decide (o.qty=0)) rfl rfl rfl (Zz hs)
  ·exact oa [7] fun D J w hs=>Qad (V:=.bool ((decide (o.item=0))&&(decide (o.qty=0)))) rfl (Zz hs)
  rintro J1 w9 J2 hJ hs
  replace hJ:J2=upd (mix (sq 20 8++[2]) J1 _) 2 (.bool ((decide (o.item=0))&&(decide (o.qty=0)))):=hJ
  subst hJ
  refine Qaw ?_
  refine ⟨_,Qao (V:=.bool ((decide (o.item=0))&&(decide (o.qty=0)))) Tryz.results152 rfl,(Zr hs (congrArg Value.bool ?_))⟩
  unfold Qb7
  have ⟨_,_,_,_,⟨hq1,hq2⟩,_,_⟩:=ho
  simp_all
  try omega
 replace c8:=QQ2 c8
 refine Qaq (Qag (Qab (Qaa (Qad (V:=.bool false) rfl (Qae (Qaw ?_))))))
 refine ⟨_,Qao (V:=.bool false) Tryz.results152 rfl,(Zr hs (congrArg Value.bool ?_))⟩
 unfold Qb7
 have ⟨_,_,_,_,⟨hq1,hq2⟩,_,_⟩:=ho
 simp_all
 try omega
theorem Qit (w:World) (o:Opn) (n:Int) (hO:Qcc o):Calls Tryz.prog 103 #[.agg (oc o).toArray,.int .i64 n] w (fun e w'=>e = .returned (.bool (Qa8 o n))/\Own w no w' []):=by
 refine Qaj (n:=50) Tryz.func103 rfl Tryz.ntmps103 rfl ?_
 have hs:=Own.start w
 have ⟨⟨⟨hr1,hr2⟩,hr3,hr4⟩,_,_,_,⟨hq1,hq2⟩,_,hctx⟩:=hO
 refine Qag (Qab (Qaa (Qa5 (V:=.agg (oc o).toArray) (cs:=oc o) rfl rfl hs fun b1 w2 hs=>(Qaa (Qad (V:=.bool false) rfl (Qae (Qag (Qag (Qbv [some 6,some 7,some 8,some 9,some 10,some 11,some 12,some 13,some 14,some 15,some 16,some 17,some 18,some 19,some 20,some 21,some 22,some 23,some 24,some 25,some 26,some 27,some 28] [] [0,1,0,7,15,31,63,127,255,511,63,2047,4095,8191,16383,32767,65535,131071,262143,524287,1048575,2097151,4194303] [pv (Pq b1 (0+7)),pv (.agg (vc o.ctx).toArray),pv (I6 n),pv (.bool (QaR o.ctx n)),pv (.bool (!(QaR o.ctx n))),pv (.bool (!(QaR o.ctx n))),pg ((!(QaR o.ctx n)) == false) (Pq b1 (0+0)),pg ((!(QaR o.ctx n)) == false) (Pq b1 (0+0+0)),pg ((!(QaR o.ctx n)) == false) (.int .u8 o.dot.rep),pg ((!(QaR o.ctx n)) == false) (I6 o.dot.rep),pg ((!(QaR o.ctx n)) == false) (I6 n),pg ((!(QaR o.ctx n)) == false) (.bool (decide (n<=o.dot.rep))),pv (.bool ((!(QaR o.ctx n))||(decide (n<=o.dot.rep)))),pv (.bool ((!(QaR o.ctx n))||(decide (n<=o.dot.rep)))),pg (((!(QaR o.ctx n))||(decide (n<=o.dot.rep))) == false) (Pq b1 (0+6)),pg (((!(QaR o.ctx n))||(decide (n<=o.dot.rep))) == false) (.int .u32 o.tick),pg (((!(QaR o.ctx n))||(decide (n<=o.dot.rep))) == false) (.bool (decide (1073741824<o.tick))),pv (.bool (((!(QaR o.ctx n))||(decide (n<=o.dot.rep)))||(decide (1073741824<o.tick)))),pv (.bool (((!(QaR o.ctx n))||(decide (n<=o.dot.rep)))||(decide (1073741824<o.tick)))),pg ((((!(QaR o.ctx n))||(decide (n<=o.dot.rep)))||(decide (1073741824<o.tick))) == false) (.agg (oc o).toArray),pg ((((!(QaR o.ctx n))||(decide (n<=o.dot.rep)))||(decide (1073741824<o.tick))) == false) (.bool (Qb7 o)),pg ((((!(QaR o.ctx n))||(decide (n<=o.dot.rep)))||(decide (1073741824<o.tick))) == false) (.bool (!(Qb7 o))),pv (.bool ((((!(QaR o.ctx n))||(decide (n<=o.dot.rep)))||(decide (1073741824<o.tick)))||(!(Qb7 o))))] (fun _ _=>_) [22] (by kernel_rfl) hs ⟨?_,?_,?_,?_,?_,?_,?_,?_,?_,?_,?_,?_,?_,?_,?_,?_,?_,?_,?_,?_,?_,?_,?_,trivial⟩ ?_)))))))))
 ·exact oa [] fun D J w hs=>Qaf QcL rfl (Zz hs)
 ·exact oa [0] fun D J w hs=>QbP (vs:=vc o.ctx) Qbs hs 0 rfl rfl rfl rfl (Zz hs)
 ·exact oa [] fun D J w hs=>Qac (V:=.int .i64 n) rfl (Zz hs)
 ·exact oa [1,2] fun D J w hs=>Qav (vs:=[.agg (vc o.ctx).toArray,.int .i64 n]) (V:=.bool (QaR o.ctx n)) Qq7 rfl rfl (Qgt _ o.ctx n (by first|assumption|exact QcC)) hs fun _ hs=>Zz hs
 ·exact oa [3] fun D J w hs=>Qbw rfl (Zz hs)
 ·exact oa [4] fun D J w hs=>Qac (V:=.bool (!(QaR o.ctx n))) rfl (Zz hs)
 ·exact og [5] fun D J w hG hs=>Qaf Qbp rfl (Zz hs)
 ·exact oy [5,6] [6] fun D J w hG hs=>Qaf QbX rfl (Zz hs)
 ·exact oy [5,7] [7] fun D J w hG hs=>QaQ (V:=.int .u8 o.dot.rep) QdF hs 0 rfl rfl rfl (Zz hs)
 ·exact oy [5,8] [8] fun D J w hG hs=>Qcn QvC QhR rfl (QbA (by omega) (by omega)) (Zz hs)
 ·exact og [5] fun D J w hG hs=>Qac (V:=.int .i64 n) rfl (Zz hs)
 ·exact oy [5,9,10] [9,10] fun D J w hG hs=>QcY rfl rfl (Zz hs)
 ·exact oa [5,11] fun D J w hs=>Qb4 (h':=decide (n<=o.dot.rep)) rfl rfl rfl (Zz hs)
 ·exact oa [12] fun D J w hs=>Qac (V:=.bool ((!(QaR o.ctx n))||(decide (n<=o.dot.rep)))) rfl (Zz hs)
 ·exact og [13] fun D J w hG hs=>Qaf Qhj rfl (Zz hs)
 ·exact oy [13,14] [14] fun D J w hG hs=>QaQ (V:=.int .u32 o.tick) QaU hs 0 rfl rfl rfl (Zz hs)
 ·exact oy [13,15] [15] fun D J w hG hs=>Qb2 rfl rfl (Zz hs)
 ·exact oa [13,16] fun D J w hs=>Qb4 (h':=decide (1073741824<o.tick)) rfl rfl rfl (Zz hs)
 ·exact oa [17] fun D J w hs=>Qac (V:=.bool (((!(QaR o.ctx n))||(decide (n<=o.dot.rep)))||(decide (1073741824<o.tick)))) rfl (Zz hs)
 ·exact og [18] fun D J w hG hs=>QaP (cs:=oc o) QbC hs 0 rfl rfl rfl (Zz hs)
 ·exact oy [18,19] [19] fun D J w hG hs=>Qav (vs:=[.agg (oc o).toArray]) (V:=.bool (Qb7 o)) Qur rfl rfl (Qo2 _ o (by assumption)) hs fun _ hs=>Zz hs
 ·exact oy [18,20] [20] fun D J w hG hs=>Qbw rfl (Zz hs)
 ·exact oa [18,21] fun D J w hs=>Qb4 (h':=!(Qb7 o)) rfl rfl rfl (Zz hs)
 rintro J1 w5 J2 hJ hs
 replace hJ:J2=upd (mix (sq 6 23) J1 _) 28 (.bool ((((!(QaR o.ctx n))||(decide (n<=o.dot.rep)))||(decide (1073741824<o.tick)))||(!(Qb7 o)))):=hJ
 subst hJ
 refine Qam (t:=(((!(QaR o.ctx n))||(decide (n<=o.dot.rep)))||(decide (1073741824<o.tick)))||(!(Qb7 o))) rfl (fun c6=>?_) (fun c6=>?_)
 ·
  refine Qag (Qab (Qaa (Qad (V:=.bool false) rfl (Qae (Qaw ?_)))))
  refine ⟨_,Qao (V:=.bool false) Tryz.results103 rfl,(Zr hs ?_)⟩
  exact congrArg Value.bool (QoQ c6).symm
 have c6r:=QfT c6
 replace c6:=QfR c6
 have c6rr:=QfT c6
 replace c6:=QfR c6
 have c6rrr:=QfT c6
 replace c6:=QfR c6
 replace c6:=Qbq c6
 replace c6rrr:=QQ2 c6rrr
 replace c6rr:=QQ2 c6rr
 replace c6r:=Qbq c6r
 refine Qaq (Qag (Qab (Qaa (Qaf Qbp rfl (Qaa (QbP (vs:=dc o.dot) QcH hs 0 rfl rfl rfl rfl (Qaa (QaM (cs:=dc (⟨0,0⟩:Dot)) Qvb rfl hs fun b7 w8 hs=>(Qaa (QcG (V:=.agg (dc o.dot).toArray) (vs:=dc o.dot) (cs':=dc o.dot) QcH.1 hs 1 rfl rfl rfl rfl rfl (QQ8 rfl) (Quc _) (QaA rfl) fun w9 hs=>(Qae (Qag ?_))))))))))))
 have hnn:=QhE c6
 refine QaI HM [some 31,some 32,some 33,some 34,some 35,some 36,some 37,some 38,some 39,some 40,some 41,some 42,some 43,some 44,some 45,some 46,some 47,some 48,some 49,some 4] [] [0,1,3,7,15,31,63,127,255,511,1023,511,4095,8191,511,16895,49663,131071,262143,524287] [pv (Pq b7 (0+1)),pv (.int .u32 o.dot.seq),pv (.bool (decide (1<=o.dot.seq))),pv (.bool (decide (1<=o.dot.seq))),pg ((decide (1<=o.dot.seq)) == true) (Pq b7 (0+1)),pg ((decide (1<=o.dot.seq)) == true) (.int .u32 o.dot.seq),pg ((decide (1<=o.dot.seq)) == true) (.bool (decide (o.dot.seq<=1048576))),pv (.bool ((decide (1<=o.dot.seq))&&(decide (o.dot.seq<=1048576)))),pv (.bool ((decide (1<=o.dot.seq))&&(decide (o.dot.seq<=1048576)))),pg (((decide (1<=o.dot.seq))&&(decide (o.dot.seq<=1048576))) == true) (Pq b7 (0+0)),pg (((decide (1<=o.dot.seq))&&(decide (o.dot.seq<=1048576))) == true) (.int .u8 o.dot.rep),pg (((decide (1<=o.dot.seq))&&(decide (o.dot.seq<=1048576))) == true) (Pq b1 (0+7)),pg (((decide (1<=o.dot.seq))&&(decide (o.dot.seq<=1048576))) == true) (.pointer (some ⟨b1,0+7+o.dot.rep.toNat,none⟩)),pg (((decide (1<=o.dot.seq))&&(decide (o.dot.seq<=1048576))) == true) (.int .u32 (vat o.ctx o.dot.rep.toNat)),pg (((decide (1<=o.dot.seq))&&(decide (o.dot.seq<=1048576))) == true) (Pq b7 (0+1)),pg (((decide (1<=o.dot.seq))&&(decide (o.dot.seq<=1048576))) == true) (.int .u32 o.dot.seq),pg (((decide (1<=o.dot.seq))&&(decide (o.dot.seq<=1048576))) == true) (.int .u32 (o.dot.seq-1)),pg (((decide (1<=o.dot.seq))&&(decide (o.dot.seq<=1048576))) == true) (.bool (decide (vat o.ctx o.dot.rep.toNat=o.dot.seq-1))),pv (.bool (((decide (1<=o.dot.seq))&&(decide (o.dot.seq<=1048576)))&&(decide (vat o.ctx o.dot.rep.toNat=o.dot.seq-1)))),pv (.bool (((decide (1<=o.dot.seq))&&(decide (o.dot.seq<=1048576)))&&(decide (vat o.ctx o.dot.rep.toNat=o.dot.seq-1))))] (fun _ _=>_) [19] (by kernel_rfl) hs ⟨?_,?_,?_,?_,?_,?_,?_,?_,?_,?_,?_,?_,?_,?_,?_,?_,?_,?_,?_,?_,trivial⟩ ?_
 ·exact oa [] fun D J w hs=>Qaf QbV rfl (Zz hs)
 ·exact oa [0] fun D J w hs=>QaQ (V:=.int .u32 o.dot.seq) QaU hs 1 rfl rfl rfl (Zz hs)
 ·exact oa [1] fun D J w hs=>QcY rfl rfl (Zz hs)
 ·exact oa [2] fun D J w hs=>Qac (V:=.bool (decide (1<=o.dot.seq))) rfl (Zz hs)
 ·exact og [3] fun D J w hG hs=>Qaf QbV rfl (Zz hs)
 ·exact oy [3,4] [4] fun D J w hG hs=>QaQ (V:=.int .u32 o.dot.seq) QaU hs 1 rfl rfl rfl (Zz hs)
 ·exact oy [3,5] [5] fun D J w hG hs=>QdK rfl rfl (Zz hs)
 ·exact oa [3,6] fun D J w hs=>Qbj (h':=decide (o.dot.seq<=1048576)) rfl rfl rfl (Zz hs)
 ·exact oa [7] fun D J w hs=>Qac (V:=.bool ((decide (1<=o.dot.seq))&&(decide (o.dot.seq<=1048576)))) rfl (Zz hs)
 ·refine og [8] fun D J w hG hs=>?_
  have hg9:=Qb1 (eq_of_beq hG)
  have hgd:=QQ1 hg9
  exact Qaf QbX rfl (Zz hs)
 ·refine oy [8,9] [9] fun D J w hG hs=>?_
  have hg9:=Qb1 (eq_of_beq hG)
  have hgd:=QQ1 hg9
  exact QaQ (V:=.int .u8 o.dot.rep) QdF hs 1 rfl rfl rfl (Zz hs)
 ·refine og [8] fun D J w hG hs=>?_
  have hg9:=Qb1 (eq_of_beq hG)
  have hgd:=QQ1 hg9
  exact Qaf QcL rfl (Zz hs)
 ·refine oy [8,10,11] [10,11] fun D J w hG hs=>?_
  have hg9:=Qb1 (eq_of_beq hG)
  have hgd:=QQ1 hg9
  exact QbW QdV QaU.1 rfl rfl (by omega) (by omega) (Zz hs)
 ·refine oy [8,12] [12] fun D J w hG hs=>?_
  have hg9:=Qb1 (eq_of_beq hG)
  have hgd:=QQ1 hg9
  exact QaQ (V:=.int .u32 (vat o.ctx o.dot.rep.toNat)) QaU hs 0 rfl rfl (QpW (by omega) (by omega)) (Zz hs)
 ·refine og [8] fun D J w hG hs=>?_
  have hg9:=Qb1 (eq_of_beq hG)
  have hgd:=QQ1 hg9
  exact Qaf QbV rfl (Zz hs)
 ·refine oy [8,14] [14] fun D J w hG hs=>?_
  have hg9:=Qb1 (eq_of_beq hG)
  have hgd:=QQ1 hg9
  exact QaQ (V:=.int .u32 o.dot.seq) QaU hs 1 rfl rfl rfl (Zz hs)
 ·refine oy [8,15] [15] fun D J w hG hs=>?_
  have hg9:=Qb1 (eq_of_beq hG)
  have hgd:=QQ1 hg9
  exact Qa6 (a:=o.dot.seq) (b:=1) (c:=o.dot.seq-1) rfl rfl (Qg2 (by omega) (by omega)) (Zz hs)
 ·refine oy [8,13,16] [13,16] fun D J w hG hs=>?_
  have hg9:=Qb1 (eq_of_beq hG)
  have hgd:=QQ1 hg9
  exact Qa1 rfl rfl (Zz hs)
 ·exact oa [8,17] fun D J w hs=>Qbj (h':=decide (vat o.ctx o.dot.rep.toNat=o.dot.seq-1)) rfl rfl rfl (Zz hs)
 ·exact oa [18] fun D J w hs=>Qad (V:=.bool (((decide (1<=o.dot.seq))&&(decide (o.dot.seq<=1048576)))&&(decide (vat o.ctx o.dot.rep.toNat=o.dot.seq-1)))) rfl (Zz hs)
 rintro J1 w10 J2 hJ hs
 replace hJ:J2=upd (mix (sq 31 19++[4]) J1 _) 4 (.bool (((decide (1<=o.dot.seq))&&(decide (o.dot.seq<=1048576)))&&(decide (vat o.ctx o.dot.rep.toNat=o.dot.seq-1)))):=hJ
 subst hJ
 refine Qaw ?_
 refine ⟨_,Qao (V:=.bool (((decide (1<=o.dot.seq))&&(decide (o.dot.seq<=1048576)))&&(decide (vat o.ctx o.dot.rep.toNat=o.dot.seq-1)))) Tryz.results103 rfl,(Zr hs ?_)⟩
 exact congrArg Value.bool (QoF c6 c6rrr c6rr c6r).symm
theorem QkS (w:World) (o:Opn) (n:Int) (hO:Qcc o):Calls Tryz.prog 105 #[.agg (oc o).toArray,.int .i64 n] w (fun e w'=>e = .returned (.bool (Qa8 o n))/\Own w no w' []):=by
 refine Qaj (n:=52) Tryz.func105 rfl Tryz.ntmps105 rfl ?_
 have hs:=Own.start w
 have ⟨⟨⟨hr1,hr2⟩,hr3,hr4⟩,_,_,_,⟨hq1,hq2⟩,_,hctx⟩:=hO
 refine Qag (Qab (Qaa (Qa5 (V:=.agg (oc o).toArray) (cs:=oc o) rfl rfl hs fun b1 w2 hs=>(Qaa (Qad (V:=.bool false) rfl (Qae (Qag (Qag (Qbv [some 5,some 6,some 7,some 8,some 9,some 10,some 11,some 12,some 13,some 14,some 15,some 16,some 17,some 18,some 19,some 20,some 21,some 22,some 23,some 24,some 25,some 26,some 27,some 28,some 29,some 30,some 31] [] [0,1,3,7,15,31,63,127,255,511,1023,127,4095,8191,16383,32767,65535,131071,262143,524287,1048575,2097151,4194303,2097151,16777215,33554431,67108863] [pv (I6 n),pv (.bool (decide (n<1))),pv (.bool (decide (n<1))),pg ((decide (n<1)) == false) (I6 n),pg ((decide (n<1)) == false) (.bool (decide (16<n))),pv (.bool ((decide (n<1))||(decide (16<n)))),pv (.bool ((decide (n<1))||(decide (16<n)))),pg (((decide (n<1))||(decide (16<n))) == false) (Pq b1 (0+0)),pg (((decide (n<1))||(decide (16<n))) == false) (Pq b1 (0+0+0)),pg (((decide (n<1))||(decide (16<n))) == false) (.int .u8 o.dot.rep),pg (((decide (n<1))||(decide (16<n))) == false) (I6 o.dot.rep),pg (((decide (n<1))||(decide (16<n))) == false) (I6 n),pg (((decide (n<1))||(decide (16<n))) == false) (.bool (decide (n<=o.dot.rep))),pv (.bool (((decide (n<1))||(decide (16<n)))||(decide (n<=o.dot.rep)))),pv (.bool (((decide (n<1))||(decide (16<n)))||(decide (n<=o.dot.rep)))),pg ((((decide (n<1))||(decide (16<n)))||(decide (n<=o.dot.rep))) == false) (Pq b1 (0+0)),pg ((((decide (n<1))||(decide (16<n)))||(decide (n<=o.dot.rep))) == false) (.agg (dc o.dot).toArray),pg ((((decide (n<1))||(decide (16<n)))||(decide (n<=o.dot.rep))) == false) (.bool (QbH o.dot)),pg ((((decide (n<1))||(decide (16<n)))||(decide (n<=o.dot.rep))) == false) (.bool (!(QbH o.dot))),pv (.bool ((((decide (n<1))||(decide (16<n)))||(decide (n<=o.dot.rep)))||(!(QbH o.dot)))),pv (.bool ((((decide (n<1))||(decide (16<n)))||(decide (n<=o.dot.rep)))||(!(QbH o.dot)))),pg (((((decide (n<1))||(decide (16<n)))||(decide (n<=o.dot.rep)))||(!(QbH o.dot))) == false) (Pq b1 (0+7)),pg (((((decide (n<1))||(decide (16<n)))||(decide (n<=o.dot.rep)))||(!(QbH o.dot))) == false) (.agg (vc o.ctx).toArray),pg (((((decide (n<1))||(decide (16<n)))||(decide (n<=o.dot.rep)))||(!(QbH o.dot))) == false) (I6 n),pg (((((decide (n<1))||(decide (16<n)))||(decide (n<=o.dot.rep)))||(!(QbH o.dot))) == false) (.bool (QaR o.ctx n)),pg (((((decide (n<1))||(decide (16<n)))||(decide (n<=o.dot.rep)))||(!(QbH o.dot))) == false) (.bool (!(QaR o.ctx n))),pv (.bool (((((decide (n<1))||(decide (16<n)))||(decide (n<=o.dot.rep)))||(!(QbH o.dot)))||(!(QaR o.ctx n))))] (fun _ _=>_) [26] (by kernel_rfl) hs ⟨?_,?_,?_,?_,?_,?_,?_,?_,?_,?_,?_,?_,?_,?_,?_,?_,?_,?_,?_,?_,?_,?_,?_,?_,?_,?_,?_,trivial⟩ ?_)))))))))
 ·exact oa [] fun D J w hs=>Qac (V:=.int .i64 n) rfl (Zz hs)
 ·exact oa [0] fun D J w hs=>Qa2 rfl rfl (Zz hs)
 ·exact oa [1] fun D J w hs=>Qac (V:=.bool (decide (n<1))) rfl (Zz hs)
 ·exact og [2] fun D J w hG hs=>Qac (V:=.int .i64 n) rfl (Zz hs)
 ·exact oy [2,3] [3] fun D J w hG hs=>Qb2 rfl rfl (Zz hs)
 ·exact oa [2,4] fun D J w hs=>Qb4 (h':=decide (16<n)) rfl rfl rfl (Zz hs)
 ·exact oa [5] fun D J w hs=>Qac (V:=.bool ((decide (n<1))||(decide (16<n)))) rfl (Zz hs)
 ·exact og [6] fun D J w hG hs=>Qaf Qbp rfl (Zz hs)
 ·exact oy [6,7] [7] fun D J w hG hs=>Qaf QbX rfl (Zz hs)
 ·exact oy [6,8] [8] fun D J w hG hs=>QaQ (V:=.int .u8 o.dot.rep) QdF hs 0 rfl rfl rfl (Zz hs)
 ·exact oy [6,9] [9] fun D J w hG hs=>Qcn QvC QhR rfl (QbA (by omega) (by omega)) (Zz hs)
 ·exact og [6] fun D J w hG hs=>Qac (V:=.int .i64 n) rfl (Zz hs)
 ·exact oy [6,10,11] [10,11] fun D J w hG hs=>QcY rfl rfl (Zz hs)
 ·exact oa [6,12] fun D J w hs=>Qb4 (h':=decide (n<=o.dot.rep)) rfl rfl rfl (Zz hs)
 ·exact oa [13] fun D J w hs=>Qac (V:=.bool (((decide (n<1))||(decide (16<n)))||(decide (n<=o.dot.rep)))) rfl (Zz hs)
 ·exact og [14] fun D J w hG hs=>Qaf Qbp rfl (Zz hs)
 ·exact oy [14,15] [15] fun D J w hG hs=>QbP (vs:=dc o.dot) QcH hs 0 rfl rfl rfl rfl (Zz hs)
 ·exact oy [14,16] [16] fun D J w hG hs=>Qav (vs:=[.agg (dc o.dot).toArray]) (V:=.bool (QbH o.dot)) QmW rfl rfl (QiV _ o.dot) hs fun _ hs=>Zz hs
 ·exact oy [14,17] [17] fun D J w hG hs=>Qbw rfl (Zz hs)
 ·exact oa [14,18] fun D J w hs=>Qb4 (h':=!(QbH o.dot)) rfl rfl rfl (Zz hs)
 ·exact oa [19] fun D J w hs=>Qac (V:=.bool ((((decide (n<1))||(decide (16<n)))||(decide (n<=o.dot.rep)))||(!(QbH o.dot)))) rfl (Zz hs)
 ·exact og [20] fun D J w hG hs=>Qaf QcL rfl (Zz hs)
 ·exact oy [20,21] [21] fun D J w hG hs=>QbP (vs:=vc o.ctx) Qbs hs 0 rfl rfl rfl rfl (Zz hs)
 ·exact og [20] fun D J w hG hs=>Qac (V:=.int .i64 n) rfl (Zz hs)
 ·exact oy [20,22,23] [22,23] fun D J w hG hs=>Qav (vs:=[.agg (vc o.ctx).toArray,.int .i64 n]) (V:=.bool (QaR o.ctx n)) QuU rfl rfl (Qm6 _ o.ctx n (by first|assumption|exact QcC)) hs fun _ hs=>Zz hs
 ·exact oy [20,24] [24] fun D J w hG hs=>Qbw rfl (Zz hs)
 ·exact oa [20,25] fun D J w hs=>Qb4 (h':=!(QaR o.ctx n)) rfl rfl rfl (Zz hs)
 rintro J1 w5 J2 hJ hs
 replace hJ:J2=upd (mix (sq 5 27) J1 _) 31 (.bool (((((decide (n<1))||(decide (16<n)))||(decide (n<=o.dot.rep)))||(!(QbH o.dot)))||(!(QaR o.ctx n)))):=hJ
 subst hJ
 refine Qam (t:=((((decide (n<1))||(decide (16<n)))||(decide (n<=o.dot.rep)))||(!(QbH o.dot)))||(!(QaR o.ctx n))) rfl (fun c6=>?_) (fun c6=>?_)
 ·
  refine Qag (Qab (Qaa (Qad (V:=.bool false) rfl (Qae (Qaw ?_)))))
  refine ⟨_,Qao (V:=.bool false) Tryz.results105 rfl,(Zr hs ?_)⟩
  exact congrArg Value.bool (Qng c6).symm
 have c6r:=QfT c6
 replace c6:=QfR c6
 have c6rr:=QfT c6
 replace c6:=QfR c6
 have c6rrr:=QfT c6
 replace c6:=QfR c6
 have c6rrrr:=QfT c6
 replace c6:=QfR c6
 replace c6:=QQ2 c6
 replace c6rrrr:=QQ2 c6rrrr
 replace c6rrr:=QQ2 c6rrr
 replace c6rr:=Qbq c6rr
 replace c6r:=Qbq c6r
 refine Qaq (Qag ?_)
 have hnn:=QhE c6r
 have hdd:=QaO c6rr
 refine QaI HM [some 32,some 33,some 34,some 35,some 36,some 37,some 38,some 39,some 40,some 41,some 42,some 43,some 44,some 45,some 46,some 47,some 48,some 49,some 50,some 51,some 4] [] [0,1,3,0,15,31,0,64,192,448,1023,2047,4095,8191,16383,32767,65535,131071,262143,524287,1048575] [pv (Pq b1 (0+0)),pv (Pq b1 (0+0+0)),pv (.int .u8 o.dot.rep),pv (Pq b1 (0+7)),pv (.pointer (some ⟨b1,0+7+o.dot.rep.toNat,none⟩)),pv (.int .u32 (vat o.ctx o.dot.rep.toNat)),pv (Pq b1 (0+0)),pv (Pq b1 (0+0+1)),pv (.int .u32 o.dot.seq),pv (.int .u32 (o.dot.seq-1)),pv (.bool (decide (vat o.ctx o.dot.rep.toNat=o.dot.seq-1))),pv (.bool (decide (vat o.ctx o.dot.rep.toNat=o.dot.seq-1))),pg ((decide (vat o.ctx o.dot.rep.toNat=o.dot.seq-1)) == true) (Pq b1 (0+6)),pg ((decide (vat o.ctx o.dot.rep.toNat=o.dot.seq-1)) == true) (.int .u32 o.tick),pg ((decide (vat o.ctx o.dot.rep.toNat=o.dot.seq-1)) == true) (.bool (decide (o.tick<=1073741824))),pv (.bool ((decide (vat o.ctx o.dot.rep.toNat=o.dot.seq-1))&&(decide (o.tick<=1073741824)))),pv (.bool ((decide (vat o.ctx o.dot.rep.toNat=o.dot.seq-1))&&(decide (o.tick<=1073741824)))),pg (((decide (vat o.ctx o.dot.rep.toNat=o.dot.seq-1))&&(decide (o.tick<=1073741824))) == true) (.agg (oc o).toArray),pg (((decide (vat o.ctx o.dot.rep.toNat=o.dot.seq-1))&&(decide (o.tick<=1073741824))) == true) (.bool (Qb7 o)),pv (.bool (((decide (vat o.ctx o.dot.rep.toNat=o.dot.seq-1))&&(decide (o.tick<=1073741824)))&&(Qb7 o))),pv (.bool (((decide (vat o.ctx o.dot.rep.toNat=o.dot.seq-1))&&(decide (o.tick<=1073741824)))&&(Qb7 o)))] (fun _ _=>_) [20] (by kernel_rfl) hs ⟨?_,?_,?_,?_,?_,?_,?_,?_,?_,?_,?_,?_,?_,?_,?_,?_,?_,?_,?_,?_,?_,trivial⟩ ?_
 ·exact oa [] fun D J w hs=>Qaf Qbp rfl (Zz hs)
 ·exact oa [0] fun D J w hs=>Qaf QbX rfl (Zz hs)
 ·exact oa [1] fun D J w hs=>QaQ (V:=.int .u8 o.dot.rep) QdF hs 0 rfl rfl rfl (Zz hs)
 ·exact oa [] fun D J w hs=>Qaf QcL rfl (Zz hs)
 ·exact oa [2,3] fun D J w hs=>QbW QdV QaU.1 rfl rfl (by omega) (by omega) (Zz hs)
 ·exact oa [4] fun D J w hs=>QaQ (V:=.int .u32 (vat o.ctx o.dot.rep.toNat)) QaU hs 0 rfl rfl (QpW (by omega) (by omega)) (Zz hs)
 ·exact oa [] fun D J w hs=>Qaf Qbp rfl (Zz hs)
 ·exact oa [6] fun D J w hs=>Qaf QbV rfl (Zz hs)
 ·exact oa [7] fun D J w hs=>QaQ (V:=.int .u32 o.dot.seq) QaU hs 0 rfl rfl rfl (Zz hs)
 ·exact oa [8] fun D J w hs=>Qa6 (a:=o.dot.seq) (b:=1) (c:=o.dot.seq-1) rfl rfl (Qg2 (by omega) (by omega)) (Zz hs)
 ·exact oa [5,9] fun D J w hs=>Qa1 rfl rfl (Zz hs)
 ·exact oa [10] fun D J w hs=>Qac (V:=.bool (decide (vat o.ctx o.dot.rep.toNat=o.dot.seq-1))) rfl (Zz hs)
 ·exact og [11] fun D J w hG hs=>Qaf Qhj rfl (Zz hs)
 ·exact oy [11,12] [12] fun D J w hG hs=>QaQ (V:=.int .u32 o.tick) QaU hs 0 rfl rfl rfl (Zz hs)
 ·exact oy [11,13] [13] fun D J w hG hs=>QdK rfl rfl (Zz hs)
 ·exact oa [11,14] fun D J w hs=>Qbj (h':=decide (o.tick<=1073741824)) rfl rfl rfl (Zz hs)
 ·exact oa [15] fun D J w hs=>Qac (V:=.bool ((decide (vat o.ctx o.dot.rep.toNat=o.dot.seq-1))&&(decide (o.tick<=1073741824)))) rfl (Zz hs)
 ·exact og [16] fun D J w hG hs=>QaP (cs:=oc o) QbC hs 0 rfl rfl rfl (Zz hs)
 ·exact oy [16,17] [17] fun D J w hG hs=>Qav (vs:=[.agg (oc o).toArray]) (V:=.bool (Qb7 o)) Qts rfl rfl (Qn9 _ o (by assumption)) hs fun _ hs=>Zz hs
 ·exact oa [16,18] fun D J w hs=>Qbj (h':=Qb7 o) rfl rfl rfl (Zz hs)
 ·exact oa [19] fun D J w hs=>Qad (V:=.bool (((decide (vat o.ctx o.dot.rep.toNat=o.dot.seq-1))&&(decide (o.tick<=1073741824)))&&(Qb7 o))) rfl (Zz hs)
 rintro J1 w8 J2 hJ hs
 replace hJ:J2=upd (mix (sq 32 20++[4]) J1 _) 4 (.bool (((decide (vat o.ctx o.dot.rep.toNat=o.dot.seq-1))&&(decide (o.tick<=1073741824)))&&(Qb7 o))):=hJ
 subst hJ
 refine Qaw ?_
 refine ⟨_,Qao (V:=.bool (((decide (vat o.ctx o.dot.rep.toNat=o.dot.seq-1))&&(decide (o.tick<=1073741824)))&&(Qb7 o))) Tryz.results105 rfl,(Zr hs ?_)⟩
 exact congrArg Value.bool (Qlq c6rrr c6rr c6r).symm
theorem QnS (w:World) (known:Vec) (o:Opn) (hO:Qcc o):Calls Tryz.prog 115 #[.agg (vc known).toArray,.agg (oc o).toArray] w (fun e w'=>e = .returned (.int .i64 (QbE known o))/\Own w no w' []):=by
 refine Qaj (n:=20) Tryz.func115 rfl Tryz.ntmps115 rfl ?_
 have hs:=Own.start w
 have hdo:=hO.1
 refine Qag (Qab (Qaa (Qa5 (V:=.agg (vc known).toArray) (cs:=vc known) rfl rfl hs fun b1 w2 hs=>(Qaa (Qa5 (V:=.agg (oc o).toArray) (cs:=oc o) rfl rfl hs fun b3 w4 hs=>(Qaa (Qad (V:=I6 0) rfl (Qae (Qag (Qan (Qag (Qab (Qaa (QaP (cs:=oc o) QbC hs 1 rfl rfl rfl (Qaa (Qav (vs:=[.agg (oc o).toArray,I6 16]) (V:=.bool (Qa8 o 16)) Qp7 rfl rfl ?hc hs fun w5 hs=>?_))))))))))))))))
 case hc=>exact (Qit _ o 16 (by assumption))
 refine Qaa (Qbw rfl (Qaa (Qad (V:=.bool (!(Qa8 o 16))) rfl (Qae (Qam (t:=!(Qa8 o 16)) rfl (fun c6=>?_) (fun c6=>?_))))))
 ·
  replace c6:=Qby c6
  refine Qag (Qab (Qaa (Qad (V:=I6 2) rfl (Qae (Qaw ?_)))))
  refine ⟨_,Qao (V:=I6 2) Tryz.results115 rfl,(Zr hs (congrArg (Value.int IntKind.i64) ?_))⟩
  unfold QbE
  rw [← Qb3]
  simp_all
 replace c6:=Qbq c6
 refine Qag (Qab (Qaa (QaP (cs:=vc known) Qbs hs 0 rfl rfl rfl (Qaa (Qaf Qbp rfl (Qaa (QbP (vs:=dc o.dot) QcH hs 1 rfl rfl rfl rfl (Qaa (Qav (vs:=[.agg (vc known).toArray,.agg (dc o.dot).toArray]) (V:=.bool (Qbu known o.dot)) Qnu rfl rfl ?hc hs fun w7 hs=>?_)))))))))
 case hc=>exact (Qgz _ known o.dot (by first|assumption|exact QcN (by omega) (by omega) (by omega) (by omega)))
 refine Qaa (Qad (V:=.bool (Qbu known o.dot)) rfl (Qae (Qam (t:=Qbu known o.dot) rfl (fun c8=>?_) (fun c8=>?_))))
 ·
  refine Qag (Qab (Qaa (Qad (V:=I6 8) rfl (Qae (Qaw ?_)))))
  refine ⟨_,Qao (V:=I6 8) Tryz.results115 rfl,(Zr hs (congrArg (Value.int IntKind.i64) ?_))⟩
  unfold QbE
  rw [← Qb3]
  simp_all
 refine Qag (Qab (Qaa (Qaf QcL rfl (Qaa (QbP (vs:=vc o.ctx) Qbs hs 1 rfl rfl rfl rfl (Qaa (QaP (cs:=vc known) Qbs hs 0 rfl rfl rfl (Qaa (Qav (vs:=[.agg (vc o.ctx).toArray,.agg (vc known).toArray]) (V:=.bool (vle o.ctx known)) Qoi rfl rfl ?hc hs fun w9 hs=>?_)))))))))
 case hc=>exact (QeN _ o.ctx known)
 refine Qaa (Qbw rfl (Qaa (Qad (V:=.bool (!(vle o.ctx known))) rfl (Qae (Qam (t:=!(vle o.ctx known)) rfl (fun c10=>?_) (fun c10=>?_))))))
 ·
  replace c10:=Qby c10
  refine Qag (Qab (Qaa (Qad (V:=I6 9) rfl (Qae (Qaw ?_)))))
  refine ⟨_,Qao (V:=I6 9) Tryz.results115 rfl,(Zr hs (congrArg (Value.int IntKind.i64) ?_))⟩
  unfold QbE
  rw [← Qb3]
  simp_all
 replace c10:=Qbq c10
 refine Qaq (Qag (Qab (Qaa (Qad (V:=I6 0) rfl (Qae (Qaw ?_))))))
 refine ⟨_,Qao (V:=I6 0) Tryz.results115 rfl,(Zr hs (congrArg (Value.int IntKind.i64) ?_))⟩
 unfold QbE
 rw [← Qb3]
 simp_all
theorem QnO (w:World) (known:Vec) (o:Opn) (hO:Qcc o):Calls Tryz.prog 111 #[.agg (vc known).toArray,.agg (oc o).toArray] w (fun e w'=>e = .returned (.int .i64 (QbE known o))/\Own w no w' []):=by
 refine Qaj (n:=20) Tryz.func111 rfl Tryz.ntmps111 rfl ?_
 have hs:=Own.start w
 have hdo:=hO.1
 refine Qag (Qab (Qaa (Qa5 (V:=.agg (vc known).toArray) (cs:=vc known) rfl rfl hs fun b1 w2 hs=>(Qaa (Qa5 (V:=.agg (oc o).toArray) (cs:=oc o) rfl rfl hs fun b3 w4 hs=>(Qaa (Qad (V:=I6 0) rfl (Qae (Qag (Qan (Qag (Qab (Qaa (QaP (cs:=oc o) QbC hs 1 rfl rfl rfl (Qaa (Qav (vs:=[.agg (oc o).toArray,I6 16]) (V:=.bool (Qa8 o 16)) QuE rfl rfl ?hc hs fun w5 hs=>?_))))))))))))))))
 case hc=>exact (QkS _ o 16 (by assumption))
 refine Qaa (Qbw rfl (Qaa (Qad (V:=.bool (!(Qa8 o 16))) rfl (Qae (Qam (t:=!(Qa8 o 16)) rfl (fun c6=>?_) (fun c6=>?_))))))
 ·
  replace c6:=Qby c6
  refine Qag (Qab (Qaa (Qad (V:=I6 2) rfl (Qae (Qaw ?_)))))
  refine ⟨_,Qao (V:=I6 2) Tryz.results111 rfl,(Zr hs (congrArg (Value.int IntKind.i64) ?_))⟩
  unfold QbE
  rw [← Qb3]
  simp_all
 replace c6:=Qbq c6
 refine Qag (Qab (Qaa (QaP (cs:=vc known) Qbs hs 0 rfl rfl rfl (Qaa (Qaf Qbp rfl (Qaa (QbP (vs:=dc o.dot) QcH hs 1 rfl rfl rfl rfl (Qaa (Qav (vs:=[.agg (vc known).toArray,.agg (dc o.dot).toArray]) (V:=.bool (Qbu known o.dot)) QlY rfl rfl ?hc hs fun w7 hs=>?_)))))))))
 case hc=>exact (Qgo _ known o.dot (by first|assumption|exact QcN (by omega) (by omega) (by omega) (by omega)))
 refine Qaa (Qad (V:=.bool (Qbu known o.dot)) rfl (Qae (Qam (t:=Qbu known o.dot) rfl (fun c8=>?_) (fun c8=>?_))))
 ·
  refine Qag (Qab (Qaa (Qad (V:=I6 8) rfl (Qae (Qaw ?_)))))
  refine ⟨_,Qao (V:=I6 8) Tryz.results111 rfl,(Zr hs (congrArg (Value.int IntKind.i64) ?_))⟩
  unfold QbE
  rw [← Qb3]
  simp_all
 refine Qag (Qab (Qaa (Qaf QcL rfl (Qaa (QbP (vs:=vc o.ctx) Qbs hs 1 rfl rfl rfl rfl (Qaa (QaP (cs:=vc known) Qbs hs 0 rfl rfl rfl (Qaa (Qav (vs:=[.agg (vc o.ctx).toArray,.agg (vc known).toArray]) (V:=.bool (vle o.ctx known)) Qrb rfl rfl ?hc hs fun w9 hs=>?_)))))))))
 case hc=>exact (QfY _ o.ctx known)
 refine Qaa (Qbw rfl (Qaa (Qad (V:=.bool (!(vle o.ctx known))) rfl (Qae (Qam (t:=!(vle o.ctx known)) rfl (fun c10=>?_) (fun c10=>?_))))))
 ·
  replace c10:=Qby c10
  refine Qag (Qab (Qaa (Qad (V:=I6 9) rfl (Qae (Qaw ?_)))))
  refine ⟨_,Qao (V:=I6 9) Tryz.results111 rfl,(Zr hs (congrArg (Value.int IntKind.i64) ?_))⟩
  unfold QbE
  rw [← Qb3]
  simp_all
 replace c10:=Qbq c10
 refine Qaq (Qag (Qab (Qaa (Qad (V:=I6 0) rfl (Qae (Qaw ?_))))))
 refine ⟨_,Qao (V:=I6 0) Tryz.results111 rfl,(Zr hs (congrArg (Value.int IntKind.i64) ?_))⟩
 unfold QbE
 rw [← Qb3]
 simp_all
end Tt
end Go.Proofs
namespace Go.Proofs
open Go Go.Vx Go.RowKit
namespace Tt
theorem Ql4 (w:World) (p:Pst) (a1:Option Addr) (c1:Nat) (a2:Option Addr) (c2:Nat) (a3:Option Addr) (c3:Nat) (hok:Qdq p) (hle:p.base.ents.length<=400) (hlt:p.base.ticks.length<=400) (hlo:p.ops.length<=400) (hr1:Rd w (.slice a1 p.base.ents.length c1) 7 (p.base.ents.map cec)) (hr2:Rd w (.slice a2 p.base.ticks.length c2) 2 (p.base.ticks.map lsc)) (hr3:Rd w (.slice a3 p.ops.length c3) 23 (p.ops.map oc)):Calls Tryz.prog 59 #[.agg (((vc p.base.known)++[(.slice a1 p.base.ents.length c1:Value),(.slice a2 p.base.ticks.length c2:Value) ])++[(.slice a3 p.ops.length c3:Value) ]++(vc p.known)).toArray] w (fun e w'=>e = .returned (.bool (Qco p))/\Own w no w' []):=by
 refine Qaj (n:=45) Tryz.func59 rfl Tryz.ntmps59 rfl ?_
 have hs:=Own.start w
 have ⟨hokb,hoko,hokk⟩:=hok
 have hn3:=hr3.sml
 refine Qag (Qab (Qaa (Qa5 (V:=.agg (((vc p.base.known)++[(.slice a1 p.base.ents.length c1:Value),(.slice a2 p.base.ticks.length c2:Value) ])++[(.slice a3 p.ops.length c3:Value) ]++(vc p.known)).toArray) (cs:=((vc p.base.known)++[(.slice a1 p.base.ents.length c1:Value),(.slice a2 p.base.ticks.length c2:Value) ])++[(.slice a3 p.ops.length c3:Value) ]++(vc p.known)) rfl rfl hs fun b1 w2 hs=>(Qaa (Qad (V:=.bool false) rfl (Qae (Qag (Qab (Qaa (QfW rfl hs dv uv fun mr3 w4 hs=>(Qaa (Qad (V:=.map (some mr3)) rfl (Qae (Qag (Qag (Qab (Qaa (Qaf QhL rfl (Qaa (QaQ (V:=.slice a3 p.ops.length c3) Qi4 hs 0 rfl rfl rfl (Qaa (Qa3 (n:=p.ops.length) Qcr (Rd.own' hr3 hs) (by simp) rfl (Qaa (Qac (V:=I6 0) rfl (Qae (Qan (QaG (fun J μ J' w'=>∃ (Jo:Env) (k:Nat) (sm:List (Dot × Unit)),J'=upd (mix ([2,5,6,7]++sq 12 30) Jo J) 12 (I6 (k:Int))/\(k<=p.ops.length)/\(∀ j:Nat,j<k->QjQ p.base.known p.ops j=false)/\(sm=Qia (p.ops.take k))/\μ=p.ops.length-k/\Own w no w' [blk b1 (((vc p.base.known)++[(.slice a1 p.base.ents.length c1:Value),(.slice a2 p.base.ticks.length c2:Value) ])++[(.slice a3 p.ops.length c3:Value) ]++(vc p.known)) 43,QgK mr3 dv uv sm]) ?_ ?_)))))))))))))))))))))))))))
 ·exact ⟨_,_,0,[],Qal (Qap (ds:=([2,5,6,7]++sq 12 30)) (Agr.refl _ _)) rfl,(by omega),(fun j hj=>absurd hj (Nat.not_lt_zero j)),rfl,rfl,hs⟩
 rintro μ J' w5 ⟨Jo,k,sm,rfl,hk,hbo,hsm,rfl,hs⟩
 refine Qag (Qab (Qaa (Qa2 rfl rfl (Qae (Qag (Qam (t:=decide ((k:Int)<((p.ops.length:Nat):Int))) rfl (fun c6=>?_) (fun c6=>?_)))))))
 ·
  replace c6:=QQ1 c6
  refine Qaq (Qag (Qan (Qag (Qab (Qaa (Qax Qcr QbC.1 (Rd.own' hr3 hs) rfl rfl (by omega) (by rw [QQ6];omega) (Qaa (Qbb (j:=0) (vs:=oc (gd p.ops k)) k QbC (Rd.own' hr3 hs) (Qba (by omega)) rfl rfl rfl (by omega) (Qaa (QaM (cs:=oc (⟨(⟨0,0⟩:Dot),0,0,0,0,0,vzero⟩:Opn)) Qh8 rfl hs fun b7 w8 hs=>(Qaa (QcG (V:=.agg (oc (gd p.ops k)).toArray) (vs:=oc (gd p.ops k)) (cs':=oc (gd p.ops k)) QbC.1 hs 2 rfl rfl rfl rfl rfl (QQ8 rfl) (Qc5 _) (QaA rfl) fun w9 hs=>?_))))))))))))
  replace hs:Own w no w9 [blk b1 (((vc p.base.known)++[(.slice a1 p.base.ents.length c1:Value),(.slice a2 p.base.ticks.length c2:Value) ])++[(.slice a3 p.ops.length c3:Value) ]++(vc p.known)) 43,QgK mr3 dv uv sm,blk b7 (oc (gd p.ops k)) 98]:=hs
  refine Qae (Qag ?_)
  have hOk:=hoko _ (QbB (l:=p.ops) (i:=k) (by omega))
  have hdk:=hOk.1
  refine Qab (Qaa (Qac (V:=.map (some mr3)) rfl (Qaa (Qaf Qbp rfl (Qaa (QbP (vs:=dc ((gd p.ops k).dot)) QcH hs 2 rfl rfl rfl rfl (Qaa (Qgm (k:=(gd p.ops k).dot) Qko Qn5 QjH (hs.mapf 1 rfl) rfl rfl (Qaa (Qac (V:=.tuple #[.agg #[],.bool ((mget ((gd p.ops k).dot) sm).isSome)]) rfl (Qaa (Qay (V:=.agg #[]) rfl rfl (Qaa (Qay (V:=.bool ((mget ((gd p.ops k).dot) sm).isSome)) rfl rfl (Qaa (QaM (cs:=[]) QjH rfl hs fun b10 w11 hs=>(Qaa (QcG (V:=.agg #[]) (vs:=[]) (cs':=[]) Qqn.1 hs 3 rfl rfl rfl rfl rfl (QQ8 rfl) QaY (QaA rfl) fun w12 hs=>(Qaa (Qad (V:=.bool ((mget ((gd p.ops k).dot) sm).isSome)) rfl (Qae (Qag (Qag (Qbv [some 23,some 24,some 25,some 26,some 27,some 28,some 29,some 30,some 31,some 32,some 33,some 34,some 35,some 36] [] [0,1,3,7,15,31,63,127,255,511,127,1151,4095,8191] [pv (.bool ((mget ((gd p.ops k).dot) sm).isSome)),pv (.bool ((mget ((gd p.ops k).dot) sm).isSome)),pg (((mget ((gd p.ops k).dot) sm).isSome) == false) (.agg (oc (gd p.ops k)).toArray),pg (((mget ((gd p.ops k).dot) sm).isSome) == false) (.bool (Qa8 (gd p.ops k) 16)),pg (((mget ((gd p.ops k).dot) sm).isSome) == false) (.bool (!(Qa8 (gd p.ops k) 16))),pv (.bool (((mget ((gd p.ops k).dot) sm).isSome)||(!(Qa8 (gd p.ops k) 16)))),pv (.bool (((mget ((gd p.ops k).dot) sm).isSome)||(!(Qa8 (gd p.ops k) 16)))),pg ((((mget ((gd p.ops k).dot) sm).isSome)||(!(Qa8 (gd p.ops k) 16))) == false) (Pq b1 (0+0)),pg ((((mget ((gd p.ops k).dot) sm).isSome)||(!(Qa8 (gd p.ops k) 16))) == false) (Pq b1 (0+0+0)),pg ((((mget ((gd p.ops k).dot) sm).isSome)||(!(Qa8 (gd p.ops k) 16))) == false) (.agg (vc p.base.known).toArray),pg ((((mget ((gd p.ops k).dot) sm).isSome)||(!(Qa8 (gd p.ops k) 16))) == false) (Pq b7 (0+0)),pg ((((mget ((gd p.ops k).dot) sm).isSome)||(!(Qa8 (gd p.ops k) 16))) == false) (.agg (dc ((gd p.ops k).dot)).toArray),pg ((((mget ((gd p.ops k).dot) sm).isSome)||(!(Qa8 (gd p.ops k) 16))) == false) (.bool (Qbu p.base.known ((gd p.ops k).dot))),pv (.bool ((((mget ((gd p.ops k).dot) sm).isSome)||(!(Qa8 (gd p.ops k) 16)))||(Qbu p.base.known ((gd p.ops k).dot))))] (fun _ _=>_) [13] (by kernel_rfl) hs ⟨?_,?_,?_,?_,?_,?_,?_,?_,?_,?_,?_,?_,?_,?_,trivial⟩ ?_))))))))))))))))))))))))
  ·exact oa [] fun D J w hs=>Qac (V:=.bool ((mget ((gd p.ops k).dot) sm).isSome)) rfl (Zz hs)
  ·exact oa [0] fun D J w hs=>Qac (V:=.bool ((mget ((gd p.ops k).dot) sm).isSome)) rfl (Zz hs)
  ·exact og [1] fun D J w hG hs=>QaP (cs:=oc (gd p.ops k)) QbC hs 2 rfl rfl rfl (Zz hs)
  ·exact oy [1,2] [2] fun D J w hG hs=>Qav (vs:=[.agg (oc (gd p.ops k)).toArray,.int .i64 16]) (V:=.bool (Qa8 (gd p.ops k) 16)) Qp7 rfl rfl (Qit _ (gd p.ops k) 16 (by assumption)) hs fun _ hs=>Zz hs
  ·exact oy [1,3] [3] fun D J w hG hs=>Qbw rfl (Zz hs)
  ·exact oa [1,4] fun D J w hs=>Qb4 (h':=!(Qa8 (gd p.ops k) 16)) rfl rfl rfl (Zz hs)
  ·exact oa [5] fun D J w hs=>Qac (V:=.bool (((mget ((gd p.ops k).dot) sm).isSome)||(!(Qa8 (gd p.ops k) 16)))) rfl (Zz hs)
  ·exact og [6] fun D J w hG hs=>Qaf Qd1 rfl (Zz hs)
  ·exact oy [6,7] [7] fun D J w hG hs=>Qaf Qd3 rfl (Zz hs)
  ·exact oy [6,8] [8] fun D J w hG hs=>QbP (vs:=vc p.base.known) Qbs hs 0 rfl rfl rfl rfl (Zz hs)
  ·exact og [6] fun D J w hG hs=>Qaf Qbp rfl (Zz hs)
  ·exact oy [6,10] [10] fun D J w hG hs=>QbP (vs:=dc ((gd p.ops k).dot)) QcH hs 2 rfl rfl rfl rfl (Zz hs)
  ·exact oy [6,9,11] [9,11] fun D J w hG hs=>Qav (vs:=[.agg (vc p.base.known).toArray,.agg (dc ((gd p.ops k).dot)).toArray]) (V:=.bool (Qbu p.base.known ((gd p.ops k).dot))) Qnu rfl rfl (Qgz _ p.base.known ((gd p.ops k).dot) (by first|assumption|exact QcN (by omega) (by omega) (by omega) (by omega))) hs fun _ hs=>Zz hs
  ·exact oa [6,12] fun D J w hs=>Qb4 (h':=Qbu p.base.known ((gd p.ops k).dot)) rfl rfl rfl (Zz hs)
  rintro J1 w15 J2 hJ hs
  replace hJ:J2=upd (mix (sq 23 14) J1 _) 36 (.bool ((((mget ((gd p.ops k).dot) sm).isSome)||(!(Qa8 (gd p.ops k) 16)))||(Qbu p.base.known ((gd p.ops k).dot)))):=hJ
  subst hJ
  refine Qam (t:=(((mget ((gd p.ops k).dot) sm).isSome)||(!(Qa8 (gd p.ops k) 16)))||(Qbu p.base.known ((gd p.ops k).dot))) rfl (fun c16=>?_) (fun c16=>?_)
  ·
   refine Qag (Qab (Qaa (Qad (V:=.bool false) rfl (Qae (Qaw ?_)))))
   refine ⟨_,Qao (V:=.bool false) Tryz.results59 rfl,(Zr hs (congrArg Value.bool (Qg8 (i:=k) (by omega) ?_).symm))⟩
   unfold QjQ
   rw [← Qih,← hsm]
   have hq:=c16
   revert hq
   cases Qa8 (gd p.ops k) 16<;>cases Qbu p.base.known (gd p.ops k).dot<;>cases (mget (gd p.ops k).dot sm).isSome<;>simp
  have c16r:=QfT c16
  replace c16:=QfR c16
  have c16rr:=QfT c16
  replace c16:=QfR c16
  replace c16rr:=Qbq c16rr
  refine Qaq (Qab (Qaa (Qac (V:=.map (some mr3)) rfl (Qaa (Qaf Qbp rfl (Qaa (QbP (vs:=dc ((gd p.ops k).dot)) QcH hs 2 rfl rfl rfl rfl (Qaa (QbI (vs:=[]) (cs:=[]) QpX (rfl) rfl (Qaa (QfV (k:=(gd p.ops k).dot) (v:=()) Qko Qn5 hs 1 rfl rfl rfl rfl fun w17 hs=>(Qae (Qab (Qaa (QaF (a:=(k:Int)) (b:=1) (c:=((k+1:Nat):Int)) rfl rfl (Qak (by omega) (by omega)) (Qaa (Qac (V:=I6 ((k+1:Nat):Int)) rfl (Qae ?_))))))))))))))))))
  have hbk:QjQ p.base.known p.ops k=false:=by
   unfold QjQ
   rw [c16rr,c16r,← Qih,← hsm,c16];rfl
  refine ⟨_,?_,_,k+1,mput ((gd p.ops k).dot) () sm,Qal (Qap (ds:=([2,5,6,7]++sq 12 30)) (by repeat (first|exact Agr.refl _ _|refine Agr.upd ?_ rfl|refine Agr.mix ?_ rfl))) rfl,(by omega),(Qdi hbo hbk),(by rw [Qk7 (by omega),← hsm]),rfl,hs.take 2⟩
  omega
 replace c6:=QQ2 c6
 refine QaL (Qag (Qab (Qaa (Qaf Qd1 rfl (Qaa (QbP (vs:=(vc p.base.known)++[(.slice a1 p.base.ents.length c1:Value),(.slice a2 p.base.ticks.length c2:Value) ]) QbR hs 0 rfl rfl rfl rfl (Qaa (Qav (vs:=[.agg ((vc p.base.known)++[(.slice a1 p.base.ents.length c1:Value),(.slice a2 p.base.ticks.length c2:Value) ]).toArray]) (V:=.bool (Qas p.base)) Qoq rfl rfl ?hc hs fun w18 hs=>?_))))))))
 case hc=>exact (Qfc _ p.base a1 c1 a2 c2 hokb (by omega) (by omega) (Rd.own' hr1 hs) (Rd.own' hr2 hs))
 refine Qaa (Qad (V:=.bool (Qas p.base)) rfl (Qae (Qaw ?_)))
 refine ⟨_,Qao (V:=.bool (Qas p.base)) Tryz.results59 rfl,(Zr hs ?_)⟩
 exact congrArg Value.bool (Qf7 fun j hj=>hbo j (by omega)).symm
theorem QnM (w:World) (p:Pst) (a1:Option Addr) (c1:Nat) (a2:Option Addr) (c2:Nat) (a3:Option Addr) (c3:Nat) (cut:Vec) (hcut:QbN cut) (hok:Qdq p) (hle:p.base.ents.length<=400) (hlt:p.base.ticks.length<=400) (hlo:p.ops.length<=400) (hr1:Rd w (.slice a1 p.base.ents.length c1) 7 (p.base.ents.map cec)) (hr2:Rd w (.slice a2 p.base.ticks.length c2) 2 (p.base.ticks.map lsc)) (hr3:Rd w (.slice a3 p.ops.length c3) 23 (p.ops.map oc)):Calls Tryz.prog 17 #[.agg (((vc p.base.known)++[(.slice a1 p.base.ents.length c1:Value),(.slice a2 p.base.ticks.length c2:Value) ])++[(.slice a3 p.ops.length c3:Value) ]++(vc p.known)).toArray,.agg (vc cut).toArray] w (fun e w'=>e = .returned (.int .i64 (QaK p cut))/\Own w no w' []):=by
 refine Qaj (n:=26) Tryz.func17 rfl Tryz.ntmps17 rfl ?_
 have hs:=Own.start w
 have ⟨hokb,hoko,hokk⟩:=hok
 refine Qag (Qab (Qaa (Qa5 (V:=.agg (((vc p.base.known)++[(.slice a1 p.base.ents.length c1:Value),(.slice a2 p.base.ticks.length c2:Value) ])++[(.slice a3 p.ops.length c3:Value) ]++(vc p.known)).toArray) (cs:=((vc p.base.known)++[(.slice a1 p.base.ents.length c1:Value),(.slice a2 p.base.ticks.length c2:Value) ])++[(.slice a3 p.ops.length c3:Value) ]++(vc p.known)) rfl rfl hs fun b1 w2 hs=>(Qaa (Qa5 (V:=.agg (vc cut).toArray) (cs:=vc cut) rfl rfl hs fun b3 w4 hs=>(Qaa (Qad (V:=I6 0) rfl (Qae (Qag (Qan (Qag (Qab (Qaa (QaP (cs:=((vc p.base.known)++[(.slice a1 p.base.ents.length c1:Value),(.slice a2 p.base.ticks.length c2:Value) ])++[(.slice a3 p.ops.length c3:Value) ]++(vc p.known)) QcZ hs 0 rfl rfl rfl (Qaa (Qav (vs:=[.agg (((vc p.base.known)++[(.slice a1 p.base.ents.length c1:Value),(.slice a2 p.base.ticks.length c2:Value) ])++[(.slice a3 p.ops.length c3:Value) ]++(vc p.known)).toArray]) (V:=.bool (Qco p)) QuJ rfl rfl ?hc hs fun w5 hs=>?_))))))))))))))))
 case hc=>exact (Ql4 _ p a1 c1 a2 c2 a3 c3 hok hle hlt hlo (Rd.own' hr1 hs) (Rd.own' hr2 hs) (Rd.own' hr3 hs))
 refine Qaa (Qbw rfl (Qaa (Qad (V:=.bool (!(Qco p))) rfl (Qae (Qam (t:=!(Qco p)) rfl (fun c6=>?_) (fun c6=>?_))))))
 ·
  replace c6:=Qby c6
  refine Qag (Qab (Qaa (Qad (V:=I6 2) rfl (Qae (Qaw ?_)))))
  refine ⟨_,Qao (V:=I6 2) Tryz.results17 rfl,(Zr hs (congrArg (Value.int .i64) ?_))⟩
  unfold QaK
  rw [c6];rfl
 replace c6:=Qbq c6
 refine Qag (Qab (Qaa (QaP (cs:=vc cut) Qbs hs 1 rfl rfl rfl (Qaa (Qav (vs:=[.agg (vc cut).toArray,I6 16]) (V:=.bool (QaR cut 16)) Qq7 rfl rfl ?hc hs fun w7 hs=>?_)))))
 case hc=>exact (Qgt _ cut 16 (by first|assumption|exact QcC))
 refine Qaa (Qbw rfl (Qaa (Qad (V:=.bool (!(QaR cut 16))) rfl (Qae (Qam (t:=!(QaR cut 16)) rfl (fun c8=>?_) (fun c8=>?_))))))
 ·
  replace c8:=Qby c8
  refine Qag (Qab (Qaa (Qad (V:=I6 13) rfl (Qae (Qaw ?_)))))
  refine ⟨_,Qao (V:=I6 13) Tryz.results17 rfl,(Zr hs (congrArg (Value.int .i64) ?_))⟩
  unfold QaK
  rw [c6,c8];rfl
 replace c8:=Qbq c8
 refine Qag (Qab (Qaa (QaP (cs:=vc cut) Qbs hs 1 rfl rfl rfl (Qaa (Qaf Qi7 rfl (Qaa (QbP (vs:=vc p.known) Qbs hs 0 rfl rfl rfl rfl (Qaa (Qav (vs:=[.agg (vc cut).toArray,.agg (vc p.known).toArray]) (V:=.bool (vle cut p.known)) Qoi rfl rfl ?hc hs fun w9 hs=>?_)))))))))
 case hc=>exact (QeN _ cut p.known)
 refine Qaa (Qbw rfl (Qaa (Qad (V:=.bool (!(vle cut p.known))) rfl (Qae (Qam (t:=!(vle cut p.known)) rfl (fun c10=>?_) (fun c10=>?_))))))
 ·
  replace c10:=Qby c10
  refine Qag (Qab (Qaa (Qad (V:=I6 11) rfl (Qae (Qaw ?_)))))
  refine ⟨_,Qao (V:=I6 11) Tryz.results17 rfl,(Zr hs (congrArg (Value.int .i64) ?_))⟩
  unfold QaK
  rw [c6,c8,c10];rfl
 replace c10:=Qbq c10
 refine Qag (Qab (Qaa (Qaf Qd1 rfl (Qaa (Qaf Qd3 rfl (Qaa (QbP (vs:=vc p.base.known) Qbs hs 0 rfl rfl rfl rfl (Qaa (QaP (cs:=vc cut) Qbs hs 1 rfl rfl rfl (Qaa (Qav (vs:=[.agg (vc p.base.known).toArray,.agg (vc cut).toArray]) (V:=.bool (vle p.base.known cut)) Qoi rfl rfl ?hc hs fun w11 hs=>?_)))))))))))
 case hc=>exact (QeN _ p.base.known cut)
 refine Qaa (Qbw rfl (Qaa (Qad (V:=.bool (!(vle p.base.known cut))) rfl (Qae (Qam (t:=!(vle p.base.known cut)) rfl (fun c12=>?_) (fun c12=>?_))))))
 ·
  replace c12:=Qby c12
  refine Qag (Qab (Qaa (Qad (V:=I6 12) rfl (Qae (Qaw ?_)))))
  refine ⟨_,Qao (V:=I6 12) Tryz.results17 rfl,(Zr hs (congrArg (Value.int .i64) ?_))⟩
  unfold QaK
  rw [c6,c8,c10,c12];rfl
 replace c12:=Qbq c12
 refine Qaq (Qag (Qab (Qaa (Qad (V:=I6 0) rfl (Qae (Qaw ?_))))))
 refine ⟨_,Qao (V:=I6 0) Tryz.results17 rfl,(Zr hs (congrArg (Value.int .i64) ?_))⟩
 unfold QaK
 rw [c6,c8,c10,c12];rfl
end Tt
end Go.Proofs
namespace Go.Proofs
open Go Go.Vx Go.RowKit
namespace Tt
theorem QoM (w:World) (x:Cen):Calls Tryz.prog 47 #[.agg (cec x).toArray] w (fun e w'=>e = .returned (.agg (oc (QaH x)).toArray)/\Own w no w' []):=by
 refine Qaj (n:=14) Tryz.func47 rfl Tryz.ntmps47 rfl ?_
 have hs:=Own.start w
 refine Qag (Qab (Qaa (Qa5 (V:=.agg (cec x).toArray) (cs:=cec x) rfl rfl hs fun b1 w2 hs=>(Qaa (QaM (cs:=oc (⟨(⟨0,0⟩:Dot),0,0,0,0,0,vzero⟩:Opn)) Qh8 rfl hs fun b3 w4 hs=>(Qae (Qag (Qab (Qaa (Qaf QbL rfl (Qaa (QbP (vs:=dc x.dot) QcH hs 0 rfl rfl rfl rfl (Qaa (Qaf Qef rfl (Qaa (QaQ (V:=.int .u8 x.kind) QdF hs 0 rfl rfl rfl (Qaa (Qaf Qdj rfl (Qaa (QaQ (V:=I7 x.cart) Qat hs 0 rfl rfl rfl (Qaa (Qaf Qdg rfl (Qaa (QaQ (V:=I7 x.item) Qat hs 0 rfl rfl rfl (Qaa (Qaf Qei rfl (Qaa (QaQ (V:=I7 x.qty) Qat hs 0 rfl rfl rfl (Qaa (QcA (vs:=[(0,.agg (dc x.dot).toArray),(1,.int .u8 x.kind),(2,I7 x.cart),(3,I7 x.item),(4,I7 x.qty)]) (cs:=oc (⟨x.dot,x.kind,x.cart,x.item,x.qty,0,vzero⟩:Opn)) [dc (⟨0,0⟩:Dot),[(.int .u8 0:Value)],[(I7 0:Value)],[(I7 0:Value)],[(I7 0:Value)],[(.int .u32 0:Value)],vc vzero] [dc x.dot,[(.int .u8 x.kind:Value)],[(I7 x.cart:Value)],[(I7 x.item:Value)],[(I7 x.qty:Value)],[(.int .u32 0:Value)],vc vzero] QqX rfl (rfl) rfl rfl (Qaa (QcG (V:=.agg (oc (⟨x.dot,x.kind,x.cart,x.item,x.qty,0,vzero⟩:Opn)).toArray) (vs:=oc (⟨x.dot,x.kind,x.cart,x.item,x.qty,0,vzero⟩:Opn)) (cs':=oc (⟨x.dot,x.kind,x.cart,x.item,x.qty,0,vzero⟩:Opn)) QbC.1 hs 1 rfl rfl rfl rfl rfl (QQ8 rfl) (Qc5 _) (QaA rfl) fun w5 hs=>(Qae (Qaw ?_))))))))))))))))))))))))))))))))))
 refine ⟨_,QdN (cs:=oc (⟨x.dot,x.kind,x.cart,x.item,x.qty,0,vzero⟩:Opn)) Tryz.results47 QbC hs 1 rfl rfl rfl,(Zr hs ?_)⟩
 rfl
theorem order_ok (w:World) (x y:Cen):Calls Tryz.prog 49 #[.agg (cec x).toArray,.agg (cec y).toArray] w (fun e w'=>e = .returned (.int .i64 (QbQ x y))/\Own w no w' []):=by
 refine Qaj (n:=26) Tryz.func49 rfl Tryz.ntmps49 rfl ?_
 have hs:=Own.start w
 refine Qag (Qab (Qaa (Qa5 (V:=.agg (cec x).toArray) (cs:=cec x) rfl rfl hs fun b1 w2 hs=>(Qaa (Qa5 (V:=.agg (cec y).toArray) (cs:=cec y) rfl rfl hs fun b3 w4 hs=>(Qaa (Qad (V:=I6 0) rfl (Qae (Qag ?_)))))))))
 replace hs:=hs.more emp trivial
 refine QaI HM [some 5,some 6,some 7,some 8,some 9,some 10,some 11,some 12,some 13,some 14,some 15,some 16,some 17,some 18,some 19,some 20,some 21,some 22,some 23,some 24,some 25,some 4] [[],[],[],[],[],[],[],[],[],[],[],[],[],[],[],[],[],[],[],[24]] [0,1,0,4,15,0,32,96,0,256,768,2047,0,4096,12288,0,32768,98304,262143,524287,1048575,2097151] [pv (Pq b1 (0+0)),pv (I7 x.cart),pv (Pq b3 (0+0)),pv (I7 y.cart),pv (I6 (QaZ x.cart y.cart)),pv (Pq b1 (0+4)),pv (Pq b1 (0+4+0)),pv (.int .u8 x.dot.rep),pv (Pq b3 (0+4)),pv (Pq b3 (0+4+0)),pv (.int .u8 y.dot.rep),pv (I6 (QaZ x.dot.rep y.dot.rep)),pv (Pq b1 (0+4)),pv (Pq b1 (0+4+1)),pv (.int .u32 x.dot.seq),pv (Pq b3 (0+4)),pv (Pq b3 (0+4+1)),pv (.int .u32 y.dot.seq),pv (I6 (QaZ x.dot.seq y.dot.seq)),(true,fun J=>.slice (some ⟨(bOf (J 24)),0,none⟩) 3 3),pv (I6 (orI [QaZ x.cart y.cart,QaZ x.dot.rep y.dot.rep,QaZ x.dot.seq y.dot.seq])),pv (I6 (orI [QaZ x.cart y.cart,QaZ x.dot.rep y.dot.rep,QaZ x.dot.seq y.dot.seq]))] (fun D J=>[blk b1 (cec x) 106,blk b3 (cec y) 106,cond (D 19) (row (.slice (some ⟨(bOf (J 24)),0,none⟩) 3 3) ([QaZ x.cart y.cart,QaZ x.dot.rep y.dot.rep,QaZ x.dot.seq y.dot.seq].map (ic .i64)) 3 1) (emp)]) [21] (by kernel_rfl) hs ⟨?_,?_,?_,?_,?_,?_,?_,?_,?_,?_,?_,?_,?_,?_,?_,?_,?_,?_,?_,?_,?_,?_,trivial⟩ ?_
 ·exact oa [] fun D J w hs=>Qaf Qdj rfl (Zz hs)
 ·exact oa [0] fun D J w hs=>QaQ (V:=.int .u16 x.cart) Qat hs 0 rfl rfl rfl (Zz hs)
 ·exact oa [] fun D J w hs=>Qaf Qdj rfl (Zz hs)
 ·exact oa [2] fun D J w hs=>QaQ (V:=.int .u16 y.cart) Qat hs 1 rfl rfl rfl (Zz hs)
 ·exact oa [1,3] fun D J w hs=>Qav (vs:=[.int .u16 x.cart,.int .u16 y.cart]) (V:=.int .i64 (QaZ x.cart y.cart)) QoK rfl rfl (Qc1 _ x.cart y.cart) hs fun _ hs=>Zz hs
 ·exact oa [] fun D J w hs=>Qaf QbL rfl (Zz hs)
 ·exact oa [5] fun D J w hs=>Qaf QbX rfl (Zz hs)
 ·exact oa [6] fun D J w hs=>QaQ (V:=.int .u8 x.dot.rep) QdF hs 0 rfl rfl rfl (Zz hs)
 ·exact oa [] fun D J w hs=>Qaf QbL rfl (Zz hs)
 ·exact oa [8] fun D J w hs=>Qaf QbX rfl (Zz hs)
 ·exact oa [9] fun D J w hs=>QaQ (V:=.int .u8 y.dot.rep) QdF hs 1 rfl rfl rfl (Zz hs)
 ·exact oa [7,10] fun D J w hs=>Qav (vs:=[.int .u8 x.dot.rep,.int .u8 y.dot.rep]) (V:=.int .i64 (QaZ x.dot.rep y.dot.rep)) Qrl rfl rfl (Qd5 _ x.dot.rep y.dot.rep) hs fun _ hs=>Zz hs
 ·exact oa [] fun D J w hs=>Qaf QbL rfl (Zz hs)
 ·exact oa [12] fun D J w hs=>Qaf QbV rfl (Zz hs)
 ·exact oa [13] fun D J w hs=>QaQ (V:=.int .u32 x.dot.seq) QaU hs 0 rfl rfl rfl (Zz hs)
 ·exact oa [] fun D J w hs=>Qaf QbL rfl (Zz hs)
 ·exact oa [15] fun D J w hs=>Qaf QbV rfl (Zz hs)
 ·exact oa [16] fun D J w hs=>QaQ (V:=.int .u32 y.dot.seq) QaU hs 1 rfl rfl rfl (Zz hs)
 ·exact oa [14,17] fun D J w hs=>Qav (vs:=[.int .u32 x.dot.seq,.int .u32 y.dot.seq]) (V:=.int .i64 (QaZ x.dot.seq y.dot.seq)) Qrs rfl rfl (QdP _ x.dot.seq y.dot.seq) hs fun _ hs=>Zz hs
 ·exact oa [4,11,18] fun D J w hs=>QhP (vals:=[.int .i64 (QaZ x.cart y.cart),.int .i64 (QaZ x.dot.rep y.dot.rep),.int .i64 (QaZ x.dot.seq y.dot.seq)]) (ls:=List.map (ic .i64) ([QaZ x.cart y.cart,QaZ x.dot.rep y.dot.rep,QaZ x.dot.seq y.dot.seq]:List Int)) Qlo rfl rfl rfl (Qbm (enc:=(ic .i64)) (fun _=>rfl) _) (QaV (Qfz .i64) _) (QQ8 rfl) hs fun _ _ hs=>⟨rfl,hs.put 2 (QQ8 rfl)⟩
 ·exact oa [19] fun D J w hs=>Qav (vs:=[.slice (some ⟨(bOf (J 24)),0,none⟩) 3 3]) (V:=.int .i64 (orI [QaZ x.cart y.cart,QaZ x.dot.rep y.dot.rep,QaZ x.dot.seq y.dot.seq])) QrW rfl rfl (Qrn _ (some ⟨(bOf (J 24)),0,none⟩) 3 [QaZ x.cart y.cart,QaZ x.dot.rep y.dot.rep,QaZ x.dot.seq y.dot.seq] (hs.rd 2 rfl)) hs fun _ hs=>Zz hs
 ·exact oa [20] fun D J w hs=>Qad (V:=.int .i64 (orI [QaZ x.cart y.cart,QaZ x.dot.rep y.dot.rep,QaZ x.dot.seq y.dot.seq])) rfl (Zz hs)
 rintro J1 w10 J2 hJ hs
 replace hJ:J2=upd (mix (sq 5 21++[4]) J1 _) 4 (I6 (orI [QaZ x.cart y.cart,QaZ x.dot.rep y.dot.rep,QaZ x.dot.seq y.dot.seq])):=hJ
 replace hs:Own w no w10 [blk b1 (cec x) 106,blk b3 (cec y) 106,row (.slice (some ⟨(bOf (J1 24)),0,none⟩) 3 3) ([QaZ x.cart y.cart,QaZ x.dot.rep y.dot.rep,QaZ x.dot.seq y.dot.seq].map (ic .i64)) 3 1]:=hs
 generalize (bOf (J1 24))=b11 at hs
 subst hJ
 refine Qaw ?_
 refine ⟨_,Qao (V:=I6 (orI [QaZ x.cart y.cart,QaZ x.dot.rep y.dot.rep,QaZ x.dot.seq y.dot.seq])) Tryz.results49 rfl,(Zr hs ?_)⟩
 rfl
theorem Qj6 (w:World) (b:Bool):Calls Tryz.prog 106 #[.bool b] w (fun e w'=>e = .returned (.int .u32 (QeQ b))/\Own w no w' []):=by
 refine Qaj (n:=4) Tryz.func106 rfl Tryz.ntmps106 rfl ?_
 have hs:=Own.start w
 refine Qag (Qab (Qaa (Qad (V:=.int .u32 0) rfl (Qae (Qag (Qag (Qab (Qaa (Qac (V:=.bool b) rfl (Qae (Qam (t:=b) rfl (fun c1=>?_) (fun c1=>?_))))))))))))
 ·
  refine Qag (Qab (Qaa (Qad (V:=.int .u32 1) rfl (Qae (Qaw ?_)))))
  refine ⟨_,Qao (V:=.int .u32 1) Tryz.results106 rfl,(Zr hs ?_)⟩
  cases b<;>simp_all [QeQ]
 refine Qaq (Qag (Qab (Qaa (Qad (V:=.int .u32 0) rfl (Qae (Qaw ?_))))))
 refine ⟨_,Qao (V:=.int .u32 0) Tryz.results106 rfl,(Zr hs ?_)⟩
 cases b<;>simp_all [QeQ]
end Tt
end Go.Proofs
namespace Go.Proofs
open Go Go.Vx Go.RowKit
namespace Tt
theorem QpR (w:World) (a:Option Addr) (c:Nat) (l:List Opn) (g:Nat) (caps:List Value) (hg:En Tryz.prog g) (p:Opn->Bool) (hp:∀ (w1:World) (L1:List Res),Own w no w1 L1->∀ x∈l,Calls Tryz.prog g ([(.agg (oc x).toArray:Value)]++caps).toArray w1 (fun e w'=>e = .returned (.bool (p x))/\Own w1 no w' [])) (hr:Rd w (.slice a l.length c) 23 (l.map oc)):Calls Tryz.prog 89 #[.slice a l.length c,.func (.func g) #[] caps.toArray] w (fun e w'=>e = .returned (.int .i64 (Qez p l))/\Own w no w' []):=by
 refine Qaj (n:=19) Tryz.func89 rfl Tryz.ntmps89 rfl ?_
 have hs:=Own.start w
 have hn:=hr.sml
 refine Qag (Qab (Qaa (Qad (V:=I6 0) rfl (Qae (Qag (Qag (Qab (Qaa (Qac (V:=.slice a l.length c) rfl (Qaa (Qa3 (n:=l.length) Qcr (Rd.own' hr hs) (by simp) rfl (Qaa (Qac (V:=I6 0) rfl (Qae (Qan (QaG (fun J μ J' w'=>∃ (Jo:Env) (k:Nat),J'=upd (mix ([4,5]++sq 8 11) Jo J) 8 (I6 (k:Int))/\(k<=l.length)/\(∀ j:Nat,j<k->p (gd l j)=false)/\μ=l.length-k/\Own w no w' []) ?_ ?_))))))))))))))))
 ·exact ⟨_,_,0,Qal (Qap (ds:=([4,5]++sq 8 11)) (Agr.refl _ _)) rfl,(by omega),(fun j hj=>absurd hj (Nat.not_lt_zero j)),rfl,hs⟩
 rintro μ J' w1 ⟨Jo,k,rfl,hk,hno,rfl,hs⟩
 refine Qag (Qab (Qaa (Qa2 rfl rfl (Qae (Qag (Qam (t:=decide ((k:Int)<((l.length:Nat):Int))) rfl (fun c2=>?_) (fun c2=>?_)))))))
 ·
  replace c2:=QQ1 c2
  refine Qaq (Qag (Qan (Qag (Qab (Qaa (Qac (V:=I6 (k:Int)) rfl (Qaa (Qad (V:=I6 (k:Int)) rfl (Qae (Qag (Qab (Qaa (Qac (V:=.func (.func g) #[] caps.toArray) rfl (Qaa (Qac (V:=.slice a l.length c) rfl (Qaa (Qac (V:=I6 (k:Int)) rfl (Qaa (Qax Qcr QbC.1 (Rd.own' hr hs) rfl rfl (by omega) (by rw [QQ6];omega) (Qaa (Qbb (j:=0) (vs:=oc (gd l k)) k QbC (Rd.own' hr hs) (Qba (by omega)) rfl rfl rfl (by omega) (Qaa (Qfd (vs:=[.agg (oc (gd l k)).toArray]) (cs:=caps) (V:=.bool (p (gd l k))) hg rfl rfl (hp _ _ hs (gd l k) (QbB (by omega))) hs fun w3 hs=>(Qae (Qam (t:=p (gd l k)) rfl (fun c4=>?_) (fun c4=>?_))))))))))))))))))))))))))
  ·
   refine Qag (Qab (Qaa (Qac (V:=I6 (k:Int)) rfl (Qaa (Qad (V:=I6 (k:Int)) rfl (Qae (Qaw ?_)))))))
   refine ⟨_,Qao (V:=I6 (k:Int)) Tryz.results89 rfl,(Zr hs ?_)⟩
   exact congrArg (Value.int .i64) (Qi2 (by omega) hno c4).symm
  refine Qaq (Qab (Qaa (QaF (a:=(k:Int)) (b:=1) (c:=(k:Int)+1) rfl rfl (QbA (by omega) (by omega)) (Qaa (Qac (V:=I6 ((k:Int)+1)) rfl (Qae ?_))))))
  refine ⟨_,?_,_,k+1,Qal (Qap (ds:=([4,5]++sq 8 11)) (by repeat (first|exact Agr.refl _ _|refine Agr.upd ?_ rfl|refine Agr.mix ?_ rfl))) rfl,(by omega),(Qdi hno c4),rfl,hs.take 0⟩
  omega
 replace c2:=QQ2 c2
 refine QaL (Qag (Qab (Qaa (Qad (V:=I6 (-1)) rfl (Qae (Qaw ?_))))))
 refine ⟨_,Qao (V:=I6 (-1)) Tryz.results89 rfl,(Zr hs ?_)⟩
 exact congrArg (Value.int .i64) (QmH fun j hj=>hno j (by omega)).symm
theorem Qo1 (w:World) (a:Option Addr) (c:Nat) (l:List Opn) (g:Nat) (caps:List Value) (hg:En Tryz.prog g) (p:Opn->Bool) (hp:∀ (w1:World) (L1:List Res),Own w no w1 L1->∀ x∈l,Calls Tryz.prog g ([(.agg (oc x).toArray:Value)]++caps).toArray w1 (fun e w'=>e = .returned (.bool (p x))/\Own w1 no w' [])) (hr:Rd w (.slice a l.length c) 23 (l.map oc)):Calls Tryz.prog 44 #[.slice a l.length c,.func (.func g) #[] caps.toArray] w (fun e w'=>e = .returned (.bool (l.any p))/\Own w no w' []):=by
 refine Qaj (n:=9) Tryz.func44 rfl Tryz.ntmps44 rfl ?_
 have hs:=Own.start w
 have hn:=hr.sml
 refine Qag (Qab (Qaa (Qad (V:=.bool false) rfl (Qae (Qag (Qab (Qaa (Qac (V:=.slice a l.length c) rfl (Qaa (Qac (V:=.func (.func g) #[] caps.toArray) rfl (Qaa (Qav (vs:=[.slice a l.length c,.func (.func g) #[] caps.toArray]) (V:=I6 (Qez p l)) Qvu rfl rfl ?hc hs fun w1 hs=>?_))))))))))))
 case hc=>exact (QpR _ a c l g caps hg p (fun w1 L1 h=>hp w1 _ (hs.call h)) (Rd.own' hr hs))
 refine Qaa (QcY rfl rfl (Qaa (Qad (V:=.bool (decide (0<=Qez p l))) rfl (Qae (Qaw ?_)))))
 refine ⟨_,Qao (V:=.bool (decide (0<=Qez p l))) Tryz.results44 rfl,(Zr hs ?_)⟩
 exact congrArg Value.bool Qrf
theorem Qlf (w:World) (o:Opn) (x:Cen) (bx:Nat) (hx:Qc9 x.dot) (hc:Qca w bx (cec x)):Calls Tryz.prog 45 #[.agg (oc o).toArray,.pointer (some ⟨bx,0,none⟩)] w (fun e w'=>e = .returned (.bool (QaE o (QaH x)))/\Own w no w' []):=by
 refine Qaj (n:=8) Tryz.func45 rfl Tryz.ntmps45 rfl ?_
 have hs:=Own.start w
 refine Qag (Qab (Qaa (Qa5 (V:=.agg (oc o).toArray) (cs:=oc o) rfl rfl hs fun b1 w2 hs=>(Qaa (Qad (V:=.bool false) rfl (Qae (Qag (QaI HM [some 4,some 5,some 6,some 7,some 3] [] [0,0,2,7,15] [pv (.agg (oc o).toArray),pv (.agg (cec x).toArray),pv (.agg (oc (QaH x)).toArray),pv (.bool (QaE o (QaH x))),pv (.bool (QaE o (QaH x)))] (fun _ _=>_) [4] (by kernel_rfl) hs ⟨?_,?_,?_,?_,?_,trivial⟩ ?_))))))))
 ·exact oa [] fun D J w hs=>QaP (cs:=oc o) QbC hs 0 rfl rfl rfl (Zz hs)
 ·exact oa [] fun D J w hs=>QnA (vs:=cec x) QaD (hc.own' hs) rfl rfl rfl (Zz hs)
 ·exact oa [1] fun D J w hs=>Qav (vs:=[.agg (cec x).toArray]) (V:=.agg (oc (QaH x)).toArray) QvR rfl rfl (QoM _ x) hs fun _ hs=>Zz hs
 ·exact oa [0,2] fun D J w hs=>Qav (vs:=[.agg (oc o).toArray,.agg (oc (QaH x)).toArray]) (V:=.bool (QaE o (QaH x))) Qs5 rfl rfl (Qj3 _ o (QaH x) hx) hs fun _ hs=>Zz hs
 ·exact oa [3] fun D J w hs=>Qad (V:=.bool (QaE o (QaH x))) rfl (Zz hs)
 rintro J1 w5 J2 hJ hs
 replace hJ:J2=upd (mix [4,5,6,7,3] J1 _) 3 (.bool (QaE o (QaH x))):=hJ
 subst hJ
 refine Qaw ?_
 refine ⟨_,Qao (V:=.bool (QaE o (QaH x))) Tryz.results45 rfl,(Zr hs ?_)⟩
 rfl
theorem Qmn (w:World) (x:Cen) (bx:Nat) (a:Option Addr) (c:Nat) (l:List Opn) (hx:Qc9 x.dot) (hc:Qca w bx [(.slice a l.length c:Value)]) (hr:Rd w (.slice a l.length c) 23 (l.map oc)):Calls Tryz.prog 43 #[.agg (cec x).toArray,.pointer (some ⟨bx,0,none⟩)] w (fun e w'=>e = .returned (.bool (l.any fun o=>QaE o (QaH x)))/\Own w no w' []):=by
 refine Qaj (n:=7) Tryz.func43 rfl Tryz.ntmps43 rfl ?_
 have hs:=Own.start w
 refine Qag (Qab (Qaa (Qa5 (V:=.agg (cec x).toArray) (cs:=cec x) rfl rfl hs fun b1 w2 hs=>(Qaa (Qad (V:=.bool false) rfl (Qae (Qag (Qab (Qaa (QoV (V:=.slice a l.length c) Qi4 (hc.own' hs) rfl rfl (Qaa (Qc3 (cs:=[Pq b1 0]) rfl rfl (Qaa (Qav (vs:=[.slice a l.length c,.func (.func 45) #[] #[Pq b1 0]]) (V:=.bool (l.any (fun o=>QaE o (QaH x)))) QvZ rfl rfl ?hc hs fun w3 hs=>?_))))))))))))))
 case hc=>exact (Qo1 _ a c l 45 [.pointer (some ⟨b1,0,none⟩)] QuX (fun o=>QaE o (QaH x)) (fun w1 L1 h o _=>Qlf w1 o x b1 hx ((hs.cellsf 0 rfl).own' h)) (Rd.own' hr hs))
 refine Qaa (Qad (V:=.bool (l.any (fun o=>QaE o (QaH x)))) rfl (Qae (Qaw ?_)))
 refine ⟨_,Qao (V:=.bool (l.any (fun o=>QaE o (QaH x)))) Tryz.results43 rfl,(Zr hs ?_)⟩
 rfl
end Tt
end Go.Proofs
namespace Go.Proofs
open Go Go.Vx Go.RowKit
namespace Tt
theorem Qnc (w:World) (f N:Nat) (caps:List Value) (hf:En Tryz.prog f) (hN:N*3<=140737488355328) (G:List Value->Prop) (hcall:Gives Tryz.prog f caps (okS (Value.int .u16) N) G w):Calls Tryz.prog 159 #[.slice none 0 0,.func (.func f) #[] caps.toArray] w (fun e w'=>∃ x:List Int × Option Addr × Nat,e = .returned (.slice x.2.1 x.1.length x.2.2)/\Own w no w' [row (.slice x.2.1 x.1.length x.2.2) (x.1.map (ic .u16)) 32 1]/\G (x.1.map (Value.int .u16))/\x.1.length<=N):=by
 refine Qjt (n:=13) Tryz.func159 rfl Tryz.ntmps159 rfl ?_
 have hs:=Own.start w
 refine QmG (Qab (Qaa (Qa5 (V:=.slice none 0 0) (cs:=[.slice none 0 0]) rfl rfl hs fun b1 w2 hs=>(Qaa (Qad (V:=.slice none 0 0) rfl (Qae (QqP (QmG (Qab (Qaa (Qac (V:=.func (.func f) #[] caps.toArray) rfl (Qae (QoZ ?_)))))))))))))
 replace hs:=hs.more (row (.slice none 0 0) (List.map (ic .u16) []) 32 1) (Qbf _ _ _ _)
 replace hs:=hs.join 0 1 (by decide) rfl rfl
 replace hs:=hs.conv 0 rfl (R':=Qu7 N b1 69 32 1 (ic .u16) (Value.int .u16) []) (fun S h=>⟨⟨([],none,0),rfl,Nat.zero_le _⟩,h⟩)
 refine Qh9 (caps:=caps) (ok:=okS (Value.int .u16) N) (G:=G) rfl rfl hf hs 0 (Qu7 N b1 69 32 1 (ic .u16) (Value.int .u16)) rfl ?_ hcall ?_
 ·rintro l fn dd pre x w2 S ⟨⟨d,rfl⟩,hpN⟩ hs
  refine Qab (Qaa (Qad (V:=I7 d) rfl (Qae ?_)))
  refine ⟨[],hs,?_⟩
  intro w3 hs
  obtain ⟨⟨⟨l0,a0,c0⟩,hx,hxN⟩,hs⟩:=hs.unpack 0 rfl
  replace hs:=hs.split 0 rfl
  dsimp only at hx
  have hlen:=congrArg List.length hx
  rw [QQ6] at hlen
  refine Qan (Qab (Qaa (QaQ (V:=.slice a0 l0.length c0) QrY hs 0 rfl rfl rfl (Qaa (Qac (V:=I7 d) rfl (Qaa (QhP (vals:=[I7 d]) (ls:=List.map (ic .u16) ([d]:List Int)) QmT rfl rfl rfl (Qbm (enc:=(ic .u16)) (fun _=>rfl) _) (QaV (Qfz .u16) _) (QQ8 rfl) hs fun b3 w4 hs=>(Qaa (Qdk (ls':=(l0++[d]).map (ic .u16)) (n:=(l0++[d]).length) QmT hs 2 rfl rfl rfl (hs.rd 3 rfl) (QaV (Qfz .u16) _) (by simp only [QQ6,QQ7,List.length_cons,List.length_nil];omega) (by simp) (by simp) fun a5 c5 w6 hs=>(Qaa (Qc0 (V:=.slice a5 ((l0++[d]).length) c5) (cs':=[.slice a5 ((l0++[d]).length) c5]) QrY hs 0 rfl rfl rfl rfl (QQ8 rfl) rfl fun w7 hs=>(Qae ?_))))))))))))
  replace hs:=hs.join 0 2 (by decide) rfl rfl
  replace hs:=hs.conv 0 rfl (R':=Qu7 N b1 69 32 1 (ic .u16) (Value.int .u16) (pre++[(Value.int .u16) d])) (fun S h=>⟨⟨(l0++[d],a5,c5),by rw [List.map_append,hx];rfl,by rw [QQ7];exact hpN⟩,h⟩)
  exact hs.take 2
 rintro xs dd w3 hG hs
 obtain ⟨⟨⟨l1,a1,c1⟩,hx,hxN⟩,hs⟩:=hs.unpack 0 rfl
 dsimp only at hx
 subst hx
 replace hs:=hs.split 0 rfl
 refine Qu0 (Qag (Qab (Qaa (QaQ (V:=.slice a1 l1.length c1) QrY hs 0 rfl rfl rfl (Qaa (Qad (V:=.slice a1 l1.length c1) rfl (Qae (Qaw (QmE (V:=.slice a1 l1.length c1) hs 2 rfl (fun w=>Qao (V:=.slice a1 l1.length c1) Tryz.results159 rfl) fun w hs=>?_)))))))))
 exact ⟨(l1,a1,c1),rfl,hs.only 3 rfl,hG,by simpa using hxN⟩
end Tt
end Go.Proofs
namespace Go.Proofs
open Go Go.Vx Go.RowKit
namespace Tt
theorem QiX (w:World) (f N:Nat) (caps:List Value) (hf:En Tryz.prog f) (hN:N*3<=140737488355328) (G:List Value->Prop) (hcall:Gives Tryz.prog f caps (okS (Value.int .u16) N) G w):Calls Tryz.prog 133 #[.func (.func f) #[] caps.toArray] w (fun e w'=>∃ x:List Int × Option Addr × Nat,e = .returned (.slice x.2.1 x.1.length x.2.2)/\Own w no w' [row (.slice x.2.1 x.1.length x.2.2) (x.1.map (ic .u16)) 32 1]/\G (x.1.map (Value.int .u16))/\x.1.length<=N):=by
 refine Qaj (n:=5) Tryz.func133 rfl Tryz.ntmps133 rfl ?_
 have hs:=Own.start w
 refine Qag (Qab (Qaa (Qad (V:=.slice none 0 0) rfl (Qae (Qag (Qab (Qaa (Qac (V:=.func (.func f) #[] caps.toArray) rfl (Qaa (Qbk (vs:=[.slice none 0 0,.func (.func f) #[] caps.toArray]) QtN rfl rfl (Qnc _ f N caps hf hN G hcall) hs fun x1 w2 hs hF3=>(Qaa (Qad (V:=.slice x1.2.1 x1.1.length x1.2.2) rfl (Qae (Qaw ?_))))))))))))))
 refine ⟨_,Qao (V:=.slice x1.2.1 x1.1.length x1.2.2) Tryz.results133 rfl,?_⟩
 exact ⟨(x1.1,x1.2.1,x1.2.2),rfl,hs.only 0 rfl,hF3⟩
theorem Qle (w:World) (f N:Nat) (caps:List Value) (hf:En Tryz.prog f) (hN:N*3<=140737488355328) (G:List Value->Prop) (hcall:Gives Tryz.prog f caps (okS (Value.int .u16) N) G w) (hsortU:QgI Tryz.prog 134 .u16 32):Calls Tryz.prog 84 #[.func (.func f) #[] caps.toArray] w (fun e w'=>∃ x:List Int × Option Addr × Nat,e = .returned (.slice x.2.1 x.1.length x.2.2)/\Own w no w' [row (.slice x.2.1 x.1.length x.2.2) (x.1.map (ic .u16)) 32 1]/\∃ m,G (m.map (Value.int .u16))/\x.1=Qa7 m):=by
 refine Qaj (n:=9) Tryz.func84 rfl Tryz.ntmps84 rfl ?_
 have hs:=Own.start w
 refine Qag (Qab (Qaa (Qad (V:=.slice none 0 0) rfl (Qae (Qag (Qab (Qaa (Qac (V:=.func (.func f) #[] caps.toArray) rfl (Qaa (Qbk (vs:=[.func (.func f) #[] caps.toArray]) Qub rfl rfl (QiX _ f N caps hf hN G hcall) hs fun x1 w2 hs hF3=>(Qaa (Qad (V:=.slice x1.2.1 x1.1.length x1.2.2) rfl (Qae (Qag ?_))))))))))))))
 have hn:=hF3.2
 refine Qab (Qaa (Qac (V:=.slice x1.2.1 x1.1.length x1.2.2) rfl (Qaa (Qbt (vs:=[.slice x1.2.1 x1.1.length x1.2.2]) (V:=fun _:Unit=>.tuple #[]) (R:=row (.slice x1.2.1 x1.1.length x1.2.2) (x1.1.map (ic .u16)) 32 1) (R':=fun _=>row (.slice x1.2.1 x1.1.length x1.2.2) ((Qa7 x1.1).map (ic .u16)) 32 1) (Lo:=fun _=>[]) (F:=fun _ _=>True) QtS rfl rfl hs 0 rfl (fun S hS hlt=>(hsortU _ S _ _ _ hS hlt (by omega)).mono fun e w' ⟨he,ho⟩=>⟨(),he,ho,trivial⟩) fun _ w4 hs _=>(Qae (Qag (Qab (Qaa (Qac (V:=.slice x1.2.1 x1.1.length x1.2.2) rfl (Qaa (Qad (V:=.slice x1.2.1 x1.1.length x1.2.2) rfl (Qae (Qaw ?_)))))))))))))
 refine ⟨_,Qao (V:=.slice x1.2.1 x1.1.length x1.2.2) Tryz.results84 rfl,?_⟩
 have hl:x1.1.length=(Qa7 x1.1).length:=(QeL _).symm
 refine ⟨(Qa7 x1.1,x1.2.1,x1.2.2),by rw [hl],?_,⟨x1.1,hF3.1,rfl⟩⟩
 have ho:=hs.only 0 rfl
 rw [hl] at ho
 exact ho
end Tt
end Go.Proofs
namespace Go.Proofs
open Go Go.Vx Go.RowKit
namespace Tt
theorem Qlu (w:World) (S:Nat->Prop) (bx r l:Nat) (lm:List (Int × Int)) (R:List Value->Res) (ok:List Value->Value->Prop) (hok:∀ (pre:List Int) (k:Int),pre.length<lm.length->k∈lm.map (·.1)->ok (pre.map (Value.int .u16)) ((Value.int .u16) k)) (hy:Qij Tryz.prog l R ok) (hR:(R []).holds w S) (hlt:∀ x,S x->x<w.heap.size) (hSb:¬S bx) (hSr:¬S r) (hc:Qca w bx [.map (some r)]) (hm:QiE w r (Value.int .u16) (Value.int .u32) lm):Calls Tryz.prog 148 #[.func (.yield l) #[] #[],.pointer (some ⟨bx,0,none⟩)] w (fun e w'=>∃ v xs,e = .returned v/\xs.Perm ((lm.map (·.1)).map (Value.int .u16))/\Own w S w' [R xs]):=by
 refine Qaj (n:=14) Tryz.func148 rfl Tryz.ntmps148 rfl ?_
 have hs:=Own.lent hR hlt
 obtain ⟨es,clock,hm0,hE⟩:=hm
 refine Qag (Qab (Qaa (QoV (V:=.map (some r)) QtD (Qca.own hc hs hSb) rfl rfl ?_)))
 have hat:=hs.at hm0 hSr
 refine Qaa (QqU QhT hat hs rfl fun it w1 hs=>(Qae (Qan (QaG (fun J μ J' w'=>∃ (Jo:Env) (pre:List Int) (seen:Array Nat),J'=mix ([3]++sq 6 8) Jo J/\(((left es seen).map (·.key)++pre.map (Value.int .u16)).Perm ((lm.map (·.1)).map (Value.int .u16)))/\μ=(left es seen).length/\Own w S w' [R (pre.map (Value.int .u16)),QkD it r clock seen]) ?_ ?_))))
 ·exact ⟨_,_,[],#[],Qap (ds:=([3]++sq 6 8)) (Agr.refl _ _),(by rw [Qnb,hE.keys];simp),rfl,hs⟩
 rintro μ J' w2 ⟨Jo,pre,seen,rfl,hp,rfl,hs⟩
 refine Qag (Qab (Qaa (Qtq (seen:=seen) (hs.at hm0 hSr) hE.old hs 1 rfl rfl (fun h0=>?_) (fun e3 ha w4 hs=>?_))))
 ·
  refine Qaa (Qay (V:=.bool false) rfl rfl (Qae (Qag (Qb8 rfl ?_))))
  refine QaL ?_
  refine ⟨_,Qbg Tryz.results148,?_⟩
  rw [h0] at hp
  exact ⟨_,pre.map (Value.int .u16),rfl,hp,hs.only 0 rfl⟩
 obtain ⟨k,hk,hkey⟩:=Qou hE (QjL ha)
 refine Qaa (Qay (V:=.bool true) rfl rfl (Qae (Qag (QcJ rfl ?_))))
 refine Qaq (Qan (Qag (Qab (Qaa (QoJ (V:=(Value.int .u16) k) (hs.at hm0 hSr) hE.inc (QjL ha) hkey hs 1 rfl rfl (Qaa (Qay (V:=I7 k) rfl rfl (Qaa (Qad (V:=I7 k) rfl (Qae (Qag (Qab (Qaa (Qac (V:=.func (.yield l) #[] #[]) rfl (Qaa (Qac (V:=I7 k) rfl ?_))))))))))))))))
 have hst:=Qnf hE ha hkey hp
 refine Qaa (Qpp (R:=R) (pre:=pre.map (Value.int .u16)) (v:=(Value.int .u16) k) hy rfl rfl (hok pre k hst.2.2 hk) hs 0 rfl fun w5 hs=>(Qaa (Qbw rfl (Qae (Qb8 rfl ?_)))))
 refine Qaq ?_
 have e1:(pre++[k]).map (Value.int .u16)=pre.map (Value.int .u16)++[(Value.int .u16) k]:=by simp
 rw [← e1] at hs
 refine ⟨_,?_,_,pre++[k],seen.push e3.born,Qap (ds:=([3]++sq 6 8)) (by repeat (first|exact Agr.refl _ _|refine Agr.upd ?_ rfl|refine Agr.mix ?_ rfl)),hst.1,rfl,hs.take 2⟩
 exact hst.2.1
theorem Qoy (w:World) (r:Nat):Calls Tryz.prog 96 #[.map (some r)] w (fun e w'=>∃ x:Nat,e = .returned (.func (.func 148) #[] #[.pointer (some ⟨x,0,none⟩)])/\Own w no w' [blk x [.map (some r)] 100]/\True):=by
 refine Qaj (n:=4) Tryz.func96 rfl Tryz.ntmps96 rfl ?_
 have hs:=Own.start w
 refine Qag (Qab (Qaa (Qa5 (V:=.map (some r)) (cs:=[.map (some r)]) rfl rfl hs fun b1 w2 hs=>(Qaa (Qad (V:=.nilFunc) rfl (Qae (Qag (Qab (Qaa (Qc3 (cs:=[Pq b1 0]) rfl rfl (Qaa (Qad (V:=.func (.func 148) #[] #[Pq b1 0]) rfl (Qae (Qaw ?_))))))))))))))
 refine ⟨_,Qao (V:=.func (.func 148) #[] #[Pq b1 0]) Tryz.results96 rfl,?_⟩
 exact ⟨b1,rfl,hs.only 0 rfl,trivial⟩
theorem QtX {w:World} {bx r N:Nat} {lm:List (Int × Int)} (hc:Qca w bx [.map (some r)]) (hm:QiE w r (Value.int .u16) (Value.int .u32) lm) (hN:lm.length<=N) :
  Gives Tryz.prog 148 [.pointer (some ⟨bx,0,none⟩)] (okS (Value.int .u16) N) (fun xs=>xs.Perm ((lm.map (·.1)).map (Value.int .u16))) w:=by
 rintro l w1 R S ⟨L1,hs1⟩ hlt hS hR hy
 have hb:bx<w.heap.size:=World.block_lt_of_cell? _ _ (hc 0 _ rfl)
 have hr:r<w.heap.size:=by obtain ⟨es,clock,h,_⟩:=hm;exact (Array.getElem?_eq_some_iff.1 h).1
 exact Qlu w1 S bx r l lm R (okS (Value.int .u16) N) (fun pre k hp _=>⟨⟨k,rfl⟩,by rw [QQ6];omega⟩) hy hR hlt (fun h=>hS _ h hb) (fun h=>hS _ h hr) (hc.own' hs1) (hm.own' hs1)
theorem QnK (w:World) (r:Nat) (m:List (Int × Int)) (hm:QiE w r (Value.int .u16) (Value.int .u32) m) (hlm:m.length<=100000) (hsortU:QgI Tryz.prog 134 .u16 32):Calls Tryz.prog 50 #[.map (some r)] w (fun e w'=>∃ x:Option Addr × Nat,e = .returned (.slice x.1 (Qa7 (m.map (·.1))).length x.2)/\Own w no w' [row (.slice x.1 (Qa7 (m.map (·.1))).length x.2) ((Qa7 (m.map (·.1))).map (ic .u16)) 32 1]/\True):=by
 refine Qaj (n:=6) Tryz.func50 rfl Tryz.ntmps50 rfl ?_
 have hs:=Own.start w
 refine Qag (Qab (Qaa (Qad (V:=.slice none 0 0) rfl (Qae (Qag (Qab (Qaa (Qac (V:=.map (some r)) rfl (Qaa (Qbk (vs:=[.map (some r)]) (V:=fun x:Nat=>.func (.func 148) #[] #[Pq x 0]) Qvs rfl rfl (Qoy _ r) hs fun x1 w2 hs _=>(Qaa (Qbk (vs:=[.func (.func 148) #[] #[Pq x1 0]]) (V:=fun x:Option Addr × Nat=>.slice x.1 (Qa7 (m.map (·.1))).length x.2) (Lo:=fun x=>[row (.slice x.1 (Qa7 (m.map (·.1))).length x.2) ((Qa7 (m.map (·.1))).map (ic .u16)) 32 1]) (F:=fun _ _=>True) QuH rfl rfl ?hc hs fun x3 w4 hs hF5=>?_))))))))))))
 case hc=>exact ((Qle _ 148 1000000 [.pointer (some ⟨x1,0,none⟩)] QtO (by decide) (fun xs=>xs.Perm ((m.map (·.1)).map (Value.int .u16))) (QtX (hs.cellsf 0 rfl) (QiE.own hm hs (fun h=>h)) (by omega)) hsortU).mono fun e w' ⟨y,he,ho,m0,hm0,hy⟩=>by
   have hy2:y.1=Qa7 (m.map (·.1)):=by rw [hy];exact Ql0 hm0
   rw [hy2] at he ho
   exact ⟨(y.2.1,y.2.2),he,ho,trivial⟩)
 refine Qaa (Qad (V:=.slice x3.1 ((Qa7 (m.map (·.1))).length) x3.2) rfl (Qae (Qaw ?_)))
 refine ⟨_,Qao (V:=.slice x3.1 ((Qa7 (m.map (·.1))).length) x3.2) Tryz.results50 rfl,?_⟩
 exact ⟨(x3.1,x3.2),rfl,hs.only 1 rfl,trivial⟩
end Tt
end Go.Proofs
namespace Go.Proofs
open Go Go.Vx Go.RowKit
namespace Tt
theorem Qln (w:World) (a:Option Addr) (c:Nat) (l:List Cen) (g:Nat) (caps:List Value) (hg:En Tryz.prog g) (p:Cen->Bool) (hp:∀ (w1:World) (L1:List Res),Own w no w1 L1->∀ x∈l,Calls Tryz.prog g ([(.agg (cec x).toArray:Value)]++caps).toArray w1 (fun e w'=>e = .returned (.bool (p x))/\Own w1 no w' [])) (hr:Rd w (.slice a l.length c) 7 (l.map cec)):Calls Tryz.prog 88 #[.slice a l.length c,.func (.func g) #[] caps.toArray] w (fun e w'=>e = .returned (.int .i64 (Qez p l))/\Own w no w' []):=by
 refine Qaj (n:=19) Tryz.func88 rfl Tryz.ntmps88 rfl ?_
 have hs:=Own.start w
 have hn:=hr.sml
 refine Qag (Qab (Qaa (Qad (V:=I6 0) rfl (Qae (Qag (Qag (Qab (Qaa (Qac (V:=.slice a l.length c) rfl (Qaa (Qa3 (n:=l.length) QbD (Rd.own' hr hs) (by simp) rfl (Qaa (Qac (V:=I6 0) rfl (Qae (Qan (QaG (fun J μ J' w'=>∃ (Jo:Env) (k:Nat),J'=upd (mix ([4,5]++sq 8 11) Jo J) 8 (I6 (k:Int))/\(k<=l.length)/\(∀ j:Nat,j<k->p (gd l j)=false)/\μ=l.length-k/\Own w no w' []) ?_ ?_))))))))))))))))
 ·exact ⟨_,_,0,Qal (Qap (ds:=([4,5]++sq 8 11)) (Agr.refl _ _)) rfl,(by omega),(fun j hj=>absurd hj (Nat.not_lt_zero j)),rfl,hs⟩
 rintro μ J' w1 ⟨Jo,k,rfl,hk,hno,rfl,hs⟩
 refine Qag (Qab (Qaa (Qa2 rfl rfl (Qae (Qag (Qam (t:=decide ((k:Int)<((l.length:Nat):Int))) rfl (fun c2=>?_) (fun c2=>?_)))))))
 ·
  replace c2:=QQ1 c2
  refine Qaq (Qag (Qan (Qag (Qab (Qaa (Qac (V:=I6 (k:Int)) rfl (Qaa (Qad (V:=I6 (k:Int)) rfl (Qae (Qag (Qab (Qaa (Qac (V:=.func (.func g) #[] caps.toArray) rfl (Qaa (Qac (V:=.slice a l.length c) rfl (Qaa (Qac (V:=I6 (k:Int)) rfl (Qaa (Qax QbD QaD.1 (Rd.own' hr hs) rfl rfl (by omega) (by rw [QQ6];omega) (Qaa (Qbb (j:=0) (vs:=cec (gd l k)) k QaD (Rd.own' hr hs) (Qba (by omega)) rfl rfl rfl (by omega) (Qaa (Qfd (vs:=[.agg (cec (gd l k)).toArray]) (cs:=caps) (V:=.bool (p (gd l k))) hg rfl rfl (hp _ _ hs (gd l k) (QbB (by omega))) hs fun w3 hs=>(Qae (Qam (t:=p (gd l k)) rfl (fun c4=>?_) (fun c4=>?_))))))))))))))))))))))))))
  ·
   refine Qag (Qab (Qaa (Qac (V:=I6 (k:Int)) rfl (Qaa (Qad (V:=I6 (k:Int)) rfl (Qae (Qaw ?_)))))))
   refine ⟨_,Qao (V:=I6 (k:Int)) Tryz.results88 rfl,(Zr hs ?_)⟩
   exact congrArg (Value.int .i64) (Qi2 (by omega) hno c4).symm
  refine Qaq (Qab (Qaa (QaF (a:=(k:Int)) (b:=1) (c:=(k:Int)+1) rfl rfl (QbA (by omega) (by omega)) (Qaa (Qac (V:=I6 ((k:Int)+1)) rfl (Qae ?_))))))
  refine ⟨_,?_,_,k+1,Qal (Qap (ds:=([4,5]++sq 8 11)) (by repeat (first|exact Agr.refl _ _|refine Agr.upd ?_ rfl|refine Agr.mix ?_ rfl))) rfl,(by omega),(Qdi hno c4),rfl,hs.take 0⟩
  omega
 replace c2:=QQ2 c2
 refine QaL (Qag (Qab (Qaa (Qad (V:=I6 (-1)) rfl (Qae (Qaw ?_))))))
 refine ⟨_,Qao (V:=I6 (-1)) Tryz.results88 rfl,(Zr hs ?_)⟩
 exact congrArg (Value.int .i64) (QmH fun j hj=>hno j (by omega)).symm
end Tt
end Go.Proofs
namespace Go.Proofs
open Go Go.Vx Go.RowKit
namespace Tt
theorem Qin (w:World) (S:Nat->Prop) (a:Option Addr) (c:Nat) (l:List Cen) (g:Nat) (caps:List Value) (hg:En Tryz.prog g) (p:Cen->Bool) (hp:∀ (w1:World) (L1:List Res),Own w S w1 L1->∀ x∈l,Calls Tryz.prog g ([(.agg (cec x).toArray:Value)]++caps).toArray w1 (fun e w'=>e = .returned (.bool (p x))/\Own w1 no w' [])) (hR:(row (.slice a l.length c) (l.map cec) 106 7).holds w S) (hlt:∀ b,S b->b<w.heap.size):Calls Tryz.prog 42 #[.slice a l.length c,.func (.func g) #[] caps.toArray] w (fun e w'=>∃ x:Unit,e = .returned (.slice a (l.filter fun x=>!p x).length c)/\Own w S w' [row (.slice a (l.filter fun x=>!p x).length c) ((l.filter fun x=>!p x).map cec) 106 7]/\True):=by
 refine Qaj (n:=42) Tryz.func42 rfl Tryz.ntmps42 rfl ?_
 have hs:=Own.lent hR hlt
 have hn:=(hs.rd 0 rfl).sml
 have hlc:=(hs.rd 0 rfl).roomM
 refine Qag (Qab (Qaa (Qad (V:=.slice none 0 0) rfl (Qae (Qag (Qab (Qaa (Qac (V:=.slice a l.length c) rfl (Qaa (Qac (V:=.func (.func g) #[] caps.toArray) rfl (Qaa (Qav (vs:=[.slice a l.length c,.func (.func g) #[] caps.toArray]) (V:=I6 (Qez p l)) QvM rfl rfl ?hc hs fun w1 hs=>?_))))))))))))
 case hc=>exact (Qln _ a c l g caps hg p (fun w1 L1 h=>hp w1 _ (hs.call h)) (hs.rd 0 rfl))
 refine Qaa (Qad (V:=I6 (Qez p l)) rfl (Qae (Qag (Qag ?_))))
 rcases Qke (p:=p) (l:=l) with hk2|hk2
 ·
  obtain ⟨hf1,hfl⟩:=hk2
  refine Qab (Qaa (Qa0 (V:=I6 (Qez p l)) (V':=I6 (-1)) (Qac (V:=I6 (Qez p l)) rfl ⟨rfl,rfl⟩) (congrArg (Value.int .i64) hf1) (Qaa (Qa0 (V:=.bool (decide ((-1:Int) = -1))) (V':=.bool true) (Qa1 rfl rfl ⟨rfl,rfl⟩) (congrArg Value.bool (QQ3 rfl)) (Qae (QcJ rfl ?_))))))
  refine Qag (Qab (Qaa (Qac (V:=.slice a l.length c) rfl (Qaa (Qad (V:=.slice a l.length c) rfl (Qae (Qaw ?_)))))))
  refine ⟨_,Qao (V:=.slice a l.length c) Tryz.results42 rfl,?_⟩
  rw [hfl]
  exact ⟨(),rfl,hs.take 1,trivial⟩
 obtain ⟨k0,hf1,hk0l,hpk,hft⟩:=hk2
 refine Qab (Qaa (Qa0 (V:=I6 (Qez p l)) (V':=I6 (k0:Int)) (Qac (V:=I6 (Qez p l)) rfl ⟨rfl,rfl⟩) (congrArg (Value.int .i64) hf1) (Qaa (Qa0 (V:=.bool (decide ((k0:Int) = -1))) (V':=.bool false) (Qa1 rfl rfl ⟨rfl,rfl⟩) (congrArg Value.bool (QQ4 (by omega))) (Qae (Qb8 rfl ?_))))))
 refine Qaq (Qag (Qag (Qab (Qaa (Qa0 (V:=I6 (Qez p l)) (V':=I6 (k0:Int)) (Qac (V:=I6 (Qez p l)) rfl ⟨rfl,rfl⟩) (congrArg (Value.int .i64) hf1) (Qaa (QaF (a:=(k0:Int)) (b:=1) (c:=((k0+1:Nat):Int)) rfl rfl (Qak (by omega) (by omega)) (Qaa (Qad (V:=I6 ((k0+1:Nat):Int)) rfl (Qae (Qan (QaG (fun J μ J' w'=>∃ (Jo:Env) (i:Nat) (j:Nat) (m:List Cen),J'=upd (upd (mix ([5,6,7]++sq 16 20) Jo J) 5 (I6 (i:Int))) 6 (I6 (j:Int))/\(i<j)/\(j<=l.length)/\(Moved p l m i j)/\μ=l.length-j/\Own w S w' [row (.slice a l.length c) (m.map cec) 106 7]) ?_ ?_))))))))))))
 ·exact ⟨_,_,k0,k0+1,l,Qal (Qal (Qap (ds:=([5,6,7]++sq 16 20)) (Agr.refl _ _)) (congrArg (Value.int .i64) hf1)) rfl,(by omega),(by omega),(Qge hk0l hpk hft),rfl,hs⟩
 rintro μ J' w2 ⟨Jo,i,j,m,rfl,hij,hj,hmv,rfl,hs⟩
 have hml:=hmv.1
 refine Qag (Qag (Qab (Qaa (Qac (V:=I6 (j:Int)) rfl (Qaa (Qac (V:=.slice a l.length c) rfl (Qaa (Qa3 (n:=l.length) QbD (hs.rd 0 rfl) (by simp [hmv.1]) rfl (Qaa (Qa2 rfl rfl (Qae (Qam (t:=decide ((j:Int)<((l.length:Nat):Int))) rfl (fun c3=>?_) (fun c3=>?_)))))))))))))
 ·
  replace c3:=QQ1 c3
  refine Qaq (Qag (Qan (Qag (Qab (Qaa (Qac (V:=.slice a l.length c) rfl (Qaa (Qac (V:=I6 (j:Int)) rfl (Qaa (Qax QbD QaD.1 (hs.rd 0 rfl) rfl rfl (by omega) (by rw [QQ6];omega) (Qaa (Qbb (j:=0) (vs:=cec (gd m j)) j QaD (hs.rd 0 rfl) (Qba (by omega)) rfl rfl rfl (by omega) (Qaa (QaM (cs:=cec (⟨0,0,0,0,(⟨0,0⟩:Dot),0⟩:Cen)) QfD rfl hs fun b4 w5 hs=>(Qaa (QcG (V:=.agg (cec (gd m j)).toArray) (vs:=cec (gd m j)) (cs':=cec (gd m j)) QaD.1 hs 1 rfl rfl rfl rfl rfl (QQ8 rfl) (Qbl _) (QaA rfl) fun w6 hs=>(Qae (Qag (Qab (Qaa (Qac (V:=.func (.func g) #[] caps.toArray) rfl (Qaa (QaP (cs:=cec (gd m j)) QaD hs 1 rfl rfl rfl (Qaa (Qfd (vs:=[.agg (cec (gd m j)).toArray]) (cs:=caps) (V:=.bool (p (gd m j))) hg rfl rfl (hp _ _ hs (gd m j) (by rw [hmv.2.2 _ (Nat.le_refl _)];exact QbB (by omega))) hs fun w7 hs=>(Qaa (Qbw rfl (Qae (Qam (t:=!(p (gd m j))) rfl (fun c8=>?_) (fun c8=>?_))))))))))))))))))))))))))))))
  ·
   replace c8:=Qby c8
   refine Qag (Qab (Qaa (Qac (V:=.slice a l.length c) rfl (Qaa (Qac (V:=I6 (i:Int)) rfl (Qaa (QaP (cs:=cec (gd m j)) QaD hs 1 rfl rfl rfl (Qaa (Qax QbD QaD.1 (hs.rd 0 rfl) rfl rfl (by omega) (by rw [QQ6];omega) (Qaa (Qhn (z:=gd m j) i QaD.1 hs 0 rfl rfl rfl (by first|omega|(simp only [List.length_set];omega)) rfl rfl rfl (Qbl _) fun w9 hs=>?_)))))))))))
   replace hs:Own w S w9 [row (.slice a l.length c) ((m.set i (gd m j)).map cec) 106 7,blk b4 (cec (gd m j)) 106]:=hs
   refine Qae (Qab (Qaa (Qac (V:=I6 (i:Int)) rfl (Qaa (QaF (a:=(i:Int)) (b:=1) (c:=((i+1:Nat):Int)) rfl rfl (Qak (by omega) (by omega)) (Qaa (Qad (V:=I6 ((i+1:Nat):Int)) rfl (Qae (Qab (Qaa (Qac (V:=I6 (j:Int)) rfl (Qaa (QaF (a:=(j:Int)) (b:=1) (c:=((j+1:Nat):Int)) rfl rfl (Qak (by omega) (by omega)) (Qaa (Qad (V:=I6 ((j+1:Nat):Int)) rfl (Qae ?_))))))))))))))))
   refine ⟨_,?_,_,i+1,j+1,m.set i (gd m j),Qal (Qal (Qap (ds:=([5,6,7]++sq 16 20)) (by repeat (first|exact Agr.refl _ _|refine Agr.upd ?_ rfl|refine Agr.mix ?_ rfl))) rfl) rfl,(by omega),(by omega),(Qg1 hmv (by omega) (by omega) c8),rfl,hs.take 1⟩
   omega
  replace c8:=Qbq c8
  refine Qaq (Qab (Qaa (Qac (V:=I6 (j:Int)) rfl (Qaa (QaF (a:=(j:Int)) (b:=1) (c:=((j+1:Nat):Int)) rfl rfl (Qak (by omega) (by omega)) (Qaa (Qad (V:=I6 ((j+1:Nat):Int)) rfl (Qae ?_))))))))
  refine ⟨_,?_,_,i,j+1,m,Qal (Qal (Qap (ds:=([5,6,7]++sq 16 20)) (by repeat (first|exact Agr.refl _ _|refine Agr.upd ?_ rfl|refine Agr.mix ?_ rfl))) rfl) rfl,(by omega),(by omega),(Qhe hmv (by omega) c8),rfl,hs.take 1⟩
  omega
 replace c3:=QQ2 c3
 refine QaL (Qag (Qab (Qaa (Qac (V:=.slice a l.length c) rfl (Qaa (Qac (V:=I6 (i:Int)) rfl (Qaa (QkL (l:=i) (h:=l.length) (m:=c) (n':=(m.drop i).length) QcX QaD.1 (hs.rd 0 rfl) rfl (.inr ⟨_,_,rfl,rfl⟩) (.inl ⟨rfl,rfl⟩) (.inl ⟨rfl,rfl⟩) (by omega) (by omega) (Nat.le_trans (show l.length<=m.length by omega) (Rd.roomM (hs.rd 0 rfl))) (Nat.le_refl _) (by simp only [List.length_take,List.length_drop]<;>omega) ?_))))))))
 refine Qaa (QjU QeK hs 0 rfl rfl (by rw [QQ6]<;>omega) (by simp only [QQ6,List.length_drop]<;>omega) (by intro v hv;have e:=Qnr hv QfD;subst e;exact (Qbl _)) fun w10 hs=>(Qae (Qag (Qab (Qaa (Qac (V:=.slice a l.length c) rfl (Qaa (Qac (V:=I6 (i:Int)) rfl (Qaa (QdU (l:=0) (h:=i) (n':=i) QcX QaD.1 (by omega) rfl (.inl ⟨rfl,rfl⟩) (.inr ⟨_,_,rfl,rfl⟩) (by omega) (by omega) (by omega) (Qaa (Qad (V:=.slice (sla a 0 c 7) i (c-0)) rfl (Qae (Qaw ?_))))))))))))))
 refine ⟨_,Qao (V:=.slice (sla a 0 c 7) i (c-0)) Tryz.results42 rfl,?_⟩
 have he:=QhW hmv (by omega)
 have hil:i=(l.filter fun x=>!p x).length:=by rw [← he,List.length_take,hmv.1];omega
 replace hs:=hs.take 1
 simp only [List.set_cons_zero,List.take_succ_cons,List.take_zero,← List.map_take,he] at hs
 rw [← hil]
 refine ⟨(),?_,hs,trivial⟩
 rw [QeY,Nat.sub_zero]
end Tt
end Go.Proofs
namespace Go.Proofs
open Go Go.Vx Go.RowKit
namespace Tt
theorem Qd8 (w:World) (p:Pst) (a1:Option Addr) (c1:Nat) (a2:Option Addr) (c2:Nat) (a3:Option Addr) (c3:Nat) (cut:Vec) (hcut:QbN cut) (hsortE:QgJ Tryz.prog 48 49 cec 106 7 Qkt) (hsortU:QgI Tryz.prog 134 .u16 32) (hok:Qdq p) (hle:p.base.ents.length<=400) (hlt:p.base.ticks.length<=400) (hlo:p.ops.length<=400) (hr1:Rd w (.slice a1 p.base.ents.length c1) 7 (p.base.ents.map cec)) (hr2:Rd w (.slice a2 p.base.ticks.length c2) 2 (p.base.ticks.map lsc)) (hr3:Rd w (.slice a3 p.ops.length c3) 23 (p.ops.map oc)):Calls Tryz.prog 12 #[.agg (((vc p.base.known)++[(.slice a1 p.base.ents.length c1:Value),(.slice a2 p.base.ticks.length c2:Value) ])++[(.slice a3 p.ops.length c3:Value) ]++(vc p.known)).toArray,.agg (vc cut).toArray] w (fun e w'=>∃ x:(Option Addr × Nat) × (Option Addr × Nat),e = .returned (.tuple #[.agg (vc (Qah p cut).known++[(.slice x.1.1 (Qah p cut).ents.length x.1.2:Value),(.slice x.2.1 (Qah p cut).ticks.length x.2.2:Value)]).toArray,.int .i64 (QaK p cut)])/\Own w no w' [row (.slice x.1.1 (Qah p cut).ents.length x.1.2) ((Qah p cut).ents.map cec) 106 7,row (.slice x.2.1 (Qah p cut).ticks.length x.2.2) ((Qah p cut).ticks.map lsc) 102 2]/\True):=by
 refine Qaj (n:=126) Tryz.func12 rfl Tryz.ntmps12 rfl ?_
 have hs:=Own.start w
 have ⟨hokb,hoko,hokk⟩:=hok
 have hn1:=hr1.sml
 have hn2:=hr2.sml
 have hn3:=hr3.sml
 refine Qag (Qab (Qaa (Qa5 (V:=.agg (((vc p.base.known)++[(.slice a1 p.base.ents.length c1:Value),(.slice a2 p.base.ticks.length c2:Value) ])++[(.slice a3 p.ops.length c3:Value) ]++(vc p.known)).toArray) (cs:=((vc p.base.known)++[(.slice a1 p.base.ents.length c1:Value),(.slice a2 p.base.ticks.length c2:Value) ])++[(.slice a3 p.ops.length c3:Value) ]++(vc p.known)) rfl rfl hs fun b1 w2 hs=>(Qaa (Qa5 (V:=.agg (vc cut).toArray) (cs:=vc cut) rfl rfl hs fun b3 w4 hs=>(Qaa (QaM (cs:=(vc vzero)++[(.slice none 0 0:Value),(.slice none 0 0:Value) ]) QfI rfl hs fun b5 w6 hs=>(Qaa (Qad (V:=I6 0) rfl (Qae (Qag (Qag (Qab (Qaa (QaP (cs:=((vc p.base.known)++[(.slice a1 p.base.ents.length c1:Value),(.slice a2 p.base.ticks.length c2:Value) ])++[(.slice a3 p.ops.length c3:Value) ]++(vc p.known)) QcZ hs 0 rfl rfl rfl (Qaa (QaP (cs:=vc cut) Qbs hs 1 rfl rfl rfl (Qaa (Qav (vs:=[.agg (((vc p.base.known)++[(.slice a1 p.base.ents.length c1:Value),(.slice a2 p.base.ticks.length c2:Value) ])++[(.slice a3 p.ops.length c3:Value) ]++(vc p.known)).toArray,.agg (vc cut).toArray]) (V:=I6 (QaK p cut)) QsI rfl rfl ?hc hs fun w7 hs=>?_)))))))))))))))))))
 case hc=>exact (QnM _ p a1 c1 a2 c2 a3 c3 cut hcut hok hle hlt hlo (Rd.own' hr1 hs) (Rd.own' hr2 hs) (Rd.own' hr3 hs))
 refine Qaa (Qad (V:=I6 (QaK p cut)) rfl (Qae (Qag (Qab (Qaa (Qac (V:=I6 (QaK p cut)) rfl (Qaa (Qcq rfl rfl (Qae (Qam (t:=!decide (QaK p cut=0)) rfl (fun c8=>?_) (fun c8=>?_)))))))))))
 ·
  replace c8:=Qby c8
  replace c8:=QQ2 c8
  refine Qag (Qab (Qaa (QcA (vs:=[]) (cs:=(vc vzero)++[(.slice none 0 0:Value),(.slice none 0 0:Value) ]) [vc vzero,[(.slice none 0 0:Value)],[(.slice none 0 0:Value)]] [vc vzero,[(.slice none 0 0:Value)],[(.slice none 0 0:Value)]] Qlx rfl (rfl) rfl rfl (Qaa (Qac (V:=I6 (QaK p cut)) rfl (Qaa (QcG (V:=.agg ((vc vzero)++[(.slice none 0 0:Value),(.slice none 0 0:Value) ]).toArray) (vs:=(vc vzero)++[(.slice none 0 0:Value),(.slice none 0 0:Value) ]) (cs':=(vc vzero)++[(.slice none 0 0:Value),(.slice none 0 0:Value) ]) QbR.1 hs 2 rfl rfl rfl rfl rfl (QQ8 rfl) (Qbn (QbS _) (Qau rfl (Qau rfl QaY))) (QaA rfl) fun w9 hs=>?_)))))))
  replace hs:Own w no w9 [blk b1 (((vc p.base.known)++[(.slice a1 p.base.ents.length c1:Value),(.slice a2 p.base.ticks.length c2:Value) ])++[(.slice a3 p.ops.length c3:Value) ]++(vc p.known)) 43,blk b3 (vc cut) 24,blk b5 ((vc vzero)++[(.slice none 0 0:Value),(.slice none 0 0:Value) ]) 38]:=hs
  refine Qaa (Qad (V:=I6 (QaK p cut)) rfl (Qae (Qaw ?_)))
  refine ⟨_,Qcj (cs:=(vc vzero)++[(.slice none 0 0:Value),(.slice none 0 0:Value) ]) (V:=I6 (QaK p cut)) Tryz.results12 QbR hs 2 rfl rfl rfl rfl,?_⟩
  rw [QlA c8]
  exact ⟨((none,0),(none,0)),rfl,((hs.take 0).more _ (Qbf _ _ 106 7)).more _ (Qbf _ _ 102 2),trivial⟩
 replace c8:=Qbq c8
 replace c8:=QQ1 c8
 refine Qaq (Qag (Qab (Qaa (QaM (cs:=[.slice none 0 0]) Qu9 rfl hs fun b10 w11 hs=>?_))))
 replace hs:Own w no w11 [blk b1 (((vc p.base.known)++[(.slice a1 p.base.ents.length c1:Value),(.slice a2 p.base.ticks.length c2:Value) ])++[(.slice a3 p.ops.length c3:Value) ]++(vc p.known)) 43,blk b3 (vc cut) 24,blk b5 ((vc vzero)++[(.slice none 0 0:Value),(.slice none 0 0:Value) ]) 38,blk b10 [.slice none 0 0] 29]:=hs
 refine Qae (Qag (Qab (Qaa (QfW rfl hs (Value.int .u16) (Value.int .u32) fun mr12 w13 hs=>(Qaa (Qad (V:=.map (some mr12)) rfl (Qae (Qag (Qag (Qab (Qaa (Qaf Qd1 rfl (Qaa (Qaf QcI rfl (Qaa (QaQ (V:=.slice a2 p.base.ticks.length c2) Qfr hs 0 rfl rfl rfl (Qaa (Qa3 (n:=p.base.ticks.length) Qet (Rd.own' hr2 hs) (by simp) rfl (Qaa (Qac (V:=I6 0) rfl (Qae (Qan ?_))))))))))))))))))))))
 have hr0:=(Qdz c8).1
 obtain ⟨hopsC,hrb⟩:=QcK hr0
 refine QaG (fun J μ J' w'=>∃ (Jo:Env) (k:Nat) (tm:List (Int × Int)),J'=upd (mix ([10]++sq 29 10) Jo J) 29 (I6 (k:Int))/\(k<=p.base.ticks.length)/\(tm=tk0 (p.base.ticks.take k))/\μ=p.base.ticks.length-k/\Own w no w' [blk b1 (((vc p.base.known)++[(.slice a1 p.base.ents.length c1:Value),(.slice a2 p.base.ticks.length c2:Value) ])++[(.slice a3 p.ops.length c3:Value) ]++(vc p.known)) 43,blk b3 (vc cut) 24,blk b5 ((vc vzero)++[(.slice none 0 0:Value),(.slice none 0 0:Value) ]) 38,blk b10 [.slice none 0 0] 29,QgK mr12 (Value.int .u16) (Value.int .u32) tm]) ?_ ?_
 ·exact ⟨_,_,0,[],Qal (Qap (ds:=([10]++sq 29 10)) (Agr.refl _ _)) rfl,(by omega),rfl,rfl,hs⟩
 rintro μ J' w14 ⟨Jo,k,tm,rfl,hk,htm,rfl,hs⟩
 refine Qag (Qab (Qaa (Qa2 rfl rfl (Qae (Qag (Qam (t:=decide ((k:Int)<((p.base.ticks.length:Nat):Int))) rfl (fun c15=>?_) (fun c15=>?_)))))))
 ·
  replace c15:=QQ1 c15
  refine Qaq (Qag (Qan (Qag (Qab (Qaa (Qax Qet QbM.1 (Rd.own' hr2 hs) rfl rfl (by omega) (by rw [QQ6];omega) (Qaa (Qbb (j:=0) (vs:=lsc (gd p.base.ticks k)) k QbM (Rd.own' hr2 hs) (Qba (by omega)) rfl rfl rfl (by omega) (Qaa (QaM (cs:=lsc (⟨0,0⟩:Lst)) QjB rfl hs fun b16 w17 hs=>(Qaa (QcG (V:=.agg (lsc (gd p.base.ticks k)).toArray) (vs:=lsc (gd p.base.ticks k)) (cs':=lsc (gd p.base.ticks k)) QbM.1 hs 5 rfl rfl rfl rfl rfl (QQ8 rfl) (Qcg _) (QaA rfl) fun w18 hs=>(Qae (Qab (Qaa (Qac (V:=.map (some mr12)) rfl (Qaa (Qaf Qel rfl (Qaa (QaQ (V:=I7 ((gd p.base.ticks k).cart)) Qat hs 5 rfl rfl rfl (Qaa (Qaf Qep rfl (Qaa (QaQ (V:=.int .u32 ((gd p.base.ticks k).tick)) QaU hs 5 rfl rfl rfl (Qaa (QfV (k:=(gd p.base.ticks k).cart) (v:=(gd p.base.ticks k).tick) QhT QpH hs 4 rfl rfl rfl rfl fun w19 hs=>?_))))))))))))))))))))))))))
  replace hs:Own w no w19 [blk b1 (((vc p.base.known)++[(.slice a1 p.base.ents.length c1:Value),(.slice a2 p.base.ticks.length c2:Value) ])++[(.slice a3 p.ops.length c3:Value) ]++(vc p.known)) 43,blk b3 (vc cut) 24,blk b5 ((vc vzero)++[(.slice none 0 0:Value),(.slice none 0 0:Value) ]) 38,blk b10 [.slice none 0 0] 29,QgK mr12 (Value.int .u16) (Value.int .u32) (mput ((gd p.base.ticks k).cart) ((gd p.base.ticks k).tick) tm),blk b16 (lsc (gd p.base.ticks k)) 102]:=hs
  refine Qae (Qab (Qaa (QaF (a:=(k:Int)) (b:=1) (c:=((k+1:Nat):Int)) rfl rfl (Qak (by omega) (by omega)) (Qaa (Qac (V:=I6 ((k+1:Nat):Int)) rfl (Qae ?_))))))
  refine ⟨_,?_,_,k+1,mput ((gd p.base.ticks k).cart) ((gd p.base.ticks k).tick) tm,Qal (Qap (ds:=([10]++sq 29 10)) (by repeat (first|exact Agr.refl _ _|refine Agr.upd ?_ rfl|refine Agr.mix ?_ rfl))) rfl,(by omega),(by rw [Qph (by omega),← htm]),rfl,hs.take 5⟩
  omega
 replace c15:=QQ2 c15
 refine QaL (Qag (Qab (Qaa (Qaf Qd1 rfl (Qaa (Qaf Qdb rfl (Qaa (QaQ (V:=.slice a1 p.base.ents.length c1) Qf6 hs 0 rfl rfl rfl (Qaa (Qbk (vs:=[.slice a1 p.base.ents.length c1]) (V:=fun x:Option Addr × Nat=>.slice x.1 (p.base.ents).length x.2) Que rfl rfl (QiG _ a1 c1 p.base.ents (by omega) (Rd.own' hr1 hs)) hs fun x20 w21 hs _=>(Qaa (Qad (V:=.slice x20.1 ((p.base.ents).length) x20.2) rfl (Qae (Qag (Qag (Qab (Qaa (Qaf QhL rfl (Qaa (QaQ (V:=.slice a3 p.ops.length c3) Qi4 hs 0 rfl rfl rfl (Qaa (Qa3 (n:=p.ops.length) Qcr (Rd.own' hr3 hs) (by simp) rfl (Qaa (Qac (V:=I6 0) rfl (Qae (Qan ?_))))))))))))))))))))))))))
 have htm0:tm=tk0 p.base.ticks:=by rw [htm,QcE (by omega)]
 replace hs:=hs.more (row (.slice none 0 0) (List.map oc []) 98 23) (Qbf _ _ _ _)
 refine QaG (fun J μ J' w'=>∃ (Jo:Env) (k2:Nat) (a8:Option Addr) (cb8:Nat) (l8:List Opn) (a7:Option Addr) (cb7:Nat) (L7:List Cen) (tm2:List (Int × Int)),J'=upd (upd (mix ([11,13]++sq 46 53) Jo J) 46 (I6 (k2:Int))) 11 (.slice a7 L7.length cb7)/\(k2<=p.ops.length)/\(l8=Qaz (p.ops.take k2) cut)/\(L7=Qb0 p.base.ents l8)/\(tm2=tkM (tk0 p.base.ticks) l8)/\(L7.length<=p.base.ents.length+k2)/\(l8.length<=k2)/\μ=p.ops.length-k2/\Own w no w' [blk b1 (((vc p.base.known)++[(.slice a1 p.base.ents.length c1:Value),(.slice a2 p.base.ticks.length c2:Value) ])++[(.slice a3 p.ops.length c3:Value) ]++(vc p.known)) 43,blk b3 (vc cut) 24,blk b5 ((vc vzero)++[(.slice none 0 0:Value),(.slice none 0 0:Value) ]) 38,blk b10 [.slice a8 l8.length cb8] 29,QgK mr12 (Value.int .u16) (Value.int .u32) tm2,row (.slice a7 L7.length cb7) (L7.map cec) 106 7,row (.slice a8 l8.length cb8) (l8.map oc) 98 23]) ?_ ?_
 ·exact ⟨_,_,0,none,0,[],x20.1,x20.2,p.base.ents,tm,Qal (Qal (Qap (ds:=([11,13]++sq 46 53)) (Agr.refl _ _)) rfl) rfl,(by omega),rfl,(by simp [Qb0]),(by rw [htm0];rfl),(by omega),(Nat.le_refl _),rfl,hs⟩
 rintro μ J' w22 ⟨Jo,k2,a8,cb8,l8,a7,cb7,L7,tm2,rfl,hk2,hl8,hL7,htm2,hn7,hn8,rfl,hs⟩
 refine Qag (Qab (Qaa (Qa2 rfl rfl (Qae (Qag (Qam (t:=decide ((k2:Int)<((p.ops.length:Nat):Int))) rfl (fun c23=>?_) (fun c23=>?_)))))))
 ·
  replace c23:=QQ1 c23
  refine Qaq (Qag (Qan (Qag (Qab (Qaa (Qax Qcr QbC.1 (Rd.own' hr3 hs) rfl rfl (by omega) (by rw [QQ6];omega) (Qaa (Qbb (j:=0) (vs:=oc (gd p.ops k2)) k2 QbC (Rd.own' hr3 hs) (Qba (by omega)) rfl rfl rfl (by omega) (Qaa (QaM (cs:=oc (⟨(⟨0,0⟩:Dot),0,0,0,0,0,vzero⟩:Opn)) Qh8 rfl hs fun b24 w25 hs=>(Qaa (QcG (V:=.agg (oc (gd p.ops k2)).toArray) (vs:=oc (gd p.ops k2)) (cs':=oc (gd p.ops k2)) QbC.1 hs 7 rfl rfl rfl rfl rfl (QQ8 rfl) (Qc5 _) (QaA rfl) fun w26 hs=>?_))))))))))))
  replace hs:Own w no w26 [blk b1 (((vc p.base.known)++[(.slice a1 p.base.ents.length c1:Value),(.slice a2 p.base.ticks.length c2:Value) ])++[(.slice a3 p.ops.length c3:Value) ]++(vc p.known)) 43,blk b3 (vc cut) 24,blk b5 ((vc vzero)++[(.slice none 0 0:Value),(.slice none 0 0:Value) ]) 38,blk b10 [.slice a8 l8.length cb8] 29,QgK mr12 (Value.int .u16) (Value.int .u32) tm2,row (.slice a7 L7.length cb7) (L7.map cec) 106 7,row (.slice a8 l8.length cb8) (l8.map oc) 98 23,blk b24 (oc (gd p.ops k2)) 98]:=hs
  refine Qae (Qag (Qag ?_))
  have hOk:=hoko _ (QbB (l:=p.ops) (i:=k2) (by omega))
  have hdk:=hOk.1
  have hxk:=hOk.2.2.2.2.2.2
  refine Qab (Qaa (QaP (cs:=vc cut) Qbs hs 1 rfl rfl rfl (Qaa (Qaf Qbp rfl (Qaa (QbP (vs:=dc ((gd p.ops k2).dot)) QcH hs 7 rfl rfl rfl rfl (Qaa (Qav (vs:=[.agg (vc cut).toArray,.agg (dc ((gd p.ops k2).dot)).toArray]) (V:=.bool (Qbu cut ((gd p.ops k2).dot))) Qnu rfl rfl ?hc hs fun w27 hs=>?_))))))))
  case hc=>exact (Qgz _ cut ((gd p.ops k2).dot) (by first|assumption|exact QcN (by omega) (by omega) (by omega) (by omega)))
  refine Qaa (Qbw rfl (Qae (Qam (t:=!(Qbu cut ((gd p.ops k2).dot))) rfl (fun c28=>?_) (fun c28=>?_))))
  ·
   replace c28:=Qby c28
   refine QaL (Qab (Qaa (QaF (a:=(k2:Int)) (b:=1) (c:=((k2+1:Nat):Int)) rfl rfl (Qak (by omega) (by omega)) (Qaa (Qac (V:=I6 ((k2+1:Nat):Int)) rfl (Qae ?_))))))
   refine ⟨_,?_,_,k2+1,a8,cb8,l8,a7,cb7,L7,tm2,Qal (Qal (Qap (ds:=([11,13]++sq 46 53)) (by repeat (first|exact Agr.refl _ _|refine Agr.upd ?_ rfl|refine Agr.mix ?_ rfl))) rfl) rfl,(by omega),(QhI hl8 (by omega) c28),hL7,htm2,(by omega),(by omega),rfl,hs.take 7⟩
   omega
  replace c28:=Qbq c28
  refine Qaq (Qag (Qab (Qaa (QaQ (V:=.slice a8 l8.length cb8) Qi4 hs 3 rfl rfl rfl (Qaa (QaP (cs:=oc (gd p.ops k2)) QbC hs 7 rfl rfl rfl (Qaa (QhP (vals:=[.agg (oc (gd p.ops k2)).toArray]) (ls:=List.map oc ([gd p.ops k2]:List Opn)) QiS rfl rfl rfl (Qbm (enc:=oc) (fun _=>rfl) _) (QaV Qc5 _) (QQ8 rfl) hs fun b29 w30 hs=>(Qaa (Qdk (ls':=(l8++[gd p.ops k2]).map oc) (n:=(l8++[gd p.ops k2]).length) QiS hs 6 rfl rfl rfl (hs.rd 8 rfl) (QaV Qc5 _) (by simp only [QQ6,QQ7,List.length_cons,List.length_nil];omega) (by simp) (by simp) fun a31 c31 w32 hs=>(Qaa (Qc0 (V:=.slice a31 ((l8++[gd p.ops k2]).length) c31) (cs':=[.slice a31 ((l8++[gd p.ops k2]).length) c31]) Qi4 hs 3 rfl rfl rfl rfl (QQ8 rfl) rfl fun w33 hs=>(Qae (Qag (Qab (Qaa (Qac (V:=.map (some mr12)) rfl (Qaa (Qaf QeA rfl (Qaa (QaQ (V:=I7 ((gd p.ops k2).cart)) Qat hs 7 rfl rfl rfl (Qaa (Qac (V:=.map (some mr12)) rfl (Qaa (Qaf QeA rfl (Qaa (QaQ (V:=I7 ((gd p.ops k2).cart)) Qat hs 7 rfl rfl rfl (Qaa (Qix (k:=(gd p.ops k2).cart) (z:=0) QhT QpH Qtx (hs.mapf 4 rfl) rfl rfl (Qaa (Qaf Qhj rfl (Qaa (QaQ (V:=.int .u32 ((gd p.ops k2).tick)) QaU hs 7 rfl rfl rfl (Qaa (Qo7 rfl rfl (Qaa (QfV (k:=(gd p.ops k2).cart) (v:=max ((mget ((gd p.ops k2).cart) tm2).getD 0) ((gd p.ops k2).tick)) QhT QpH hs 4 rfl rfl rfl rfl fun w34 hs=>?_)))))))))))))))))))))))))))))))))))))
  replace hs:Own w no w34 [blk b1 (((vc p.base.known)++[(.slice a1 p.base.ents.length c1:Value),(.slice a2 p.base.ticks.length c2:Value) ])++[(.slice a3 p.ops.length c3:Value) ]++(vc p.known)) 43,blk b3 (vc cut) 24,blk b5 ((vc vzero)++[(.slice none 0 0:Value),(.slice none 0 0:Value) ]) 38,blk b10 [.slice a31 ((l8++[gd p.ops k2]).length) c31] 29,QgK mr12 (Value.int .u16) (Value.int .u32) (mput ((gd p.ops k2).cart) (max ((mget ((gd p.ops k2).cart) tm2).getD 0) ((gd p.ops k2).tick)) tm2),row (.slice a7 L7.length cb7) (L7.map cec) 106 7,row (.slice a31 ((l8++[gd p.ops k2]).length) c31) ((l8++[gd p.ops k2]).map oc) 98 23,blk b24 (oc (gd p.ops k2)) 98,row (.slice (some ⟨b29,0,none⟩) 1 1) ([gd p.ops k2].map oc) 98 23]:=hs
  refine Qae (Qag (Qbv [some 69,some 70,some 71,some 72,some 73,some 74,some 75,some 76,some 77,some 78,some 79,some 80,some 81] [] [0,1,3,7,15,31,63,127,255,511,1023,2047,4095] [pv (Pq b24 (0+2)),pv (.int .u8 ((gd p.ops k2).kind)),pv (.bool (decide ((gd p.ops k2).kind=1))),pv (.bool (decide ((gd p.ops k2).kind=1))),pg ((decide ((gd p.ops k2).kind=1)) == false) (Pq b24 (0+2)),pg ((decide ((gd p.ops k2).kind=1)) == false) (.int .u8 ((gd p.ops k2).kind)),pg ((decide ((gd p.ops k2).kind=1)) == false) (.bool (decide ((gd p.ops k2).kind=2))),pv (.bool ((decide ((gd p.ops k2).kind=1))||(decide ((gd p.ops k2).kind=2)))),pv (.bool ((decide ((gd p.ops k2).kind=1))||(decide ((gd p.ops k2).kind=2)))),pg (((decide ((gd p.ops k2).kind=1))||(decide ((gd p.ops k2).kind=2))) == false) (Pq b24 (0+2)),pg (((decide ((gd p.ops k2).kind=1))||(decide ((gd p.ops k2).kind=2))) == false) (.int .u8 ((gd p.ops k2).kind)),pg (((decide ((gd p.ops k2).kind=1))||(decide ((gd p.ops k2).kind=2))) == false) (.bool (decide ((gd p.ops k2).kind=4))),pv (.bool (Qbz (gd p.ops k2)))] (fun _ _=>_) [12] (by kernel_rfl) hs ⟨?_,?_,?_,?_,?_,?_,?_,?_,?_,?_,?_,?_,?_,trivial⟩ ?_))
  ·exact oa [] fun D J w hs=>Qaf Qcf rfl (Zz hs)
  ·exact oa [0] fun D J w hs=>QaQ (V:=.int .u8 ((gd p.ops k2).kind)) QdF hs 7 rfl rfl rfl (Zz hs)
  ·exact oa [1] fun D J w hs=>Qa1 rfl rfl (Zz hs)
  ·exact oa [2] fun D J w hs=>Qac (V:=.bool (decide ((gd p.ops k2).kind=1))) rfl (Zz hs)
  ·exact og [3] fun D J w hG hs=>Qaf Qcf rfl (Zz hs)
  ·exact oy [3,4] [4] fun D J w hG hs=>QaQ (V:=.int .u8 ((gd p.ops k2).kind)) QdF hs 7 rfl rfl rfl (Zz hs)
  ·exact oy [3,5] [5] fun D J w hG hs=>Qa1 rfl rfl (Zz hs)
  ·exact oa [3,6] fun D J w hs=>Qb4 (h':=decide ((gd p.ops k2).kind=2)) rfl rfl rfl (Zz hs)
  ·exact oa [7] fun D J w hs=>Qac (V:=.bool ((decide ((gd p.ops k2).kind=1))||(decide ((gd p.ops k2).kind=2)))) rfl (Zz hs)
  ·exact og [8] fun D J w hG hs=>Qaf Qcf rfl (Zz hs)
  ·exact oy [8,9] [9] fun D J w hG hs=>QaQ (V:=.int .u8 ((gd p.ops k2).kind)) QdF hs 7 rfl rfl rfl (Zz hs)
  ·exact oy [8,10] [10] fun D J w hG hs=>Qa1 rfl rfl (Zz hs)
  ·exact oa [8,11] fun D J w hs=>Qa0 (V:=.bool (((decide ((gd p.ops k2).kind=1))||(decide ((gd p.ops k2).kind=2)))||(decide ((gd p.ops k2).kind=4)))) (V':=.bool (Qbz (gd p.ops k2))) (Qb4 (h':=decide ((gd p.ops k2).kind=4)) rfl rfl rfl ⟨rfl,rfl⟩) (congrArg Value.bool (Qly _)) (Zz hs)
  rintro J1 w35 J2 hJ hs
  replace hJ:J2=upd (mix (sq 69 13) J1 _) 81 (.bool (Qbz (gd p.ops k2))):=hJ
  subst hJ
  refine Qam (t:=Qbz (gd p.ops k2)) rfl (fun c36=>?_) (fun c36=>?_)
  ·
   replace hs:=hs.more emp trivial
   refine QaI HM [some 82,some 83,some 84,some 85,some 86,some 87,some 88,some 89,some 90,some 91,some 92,some 93,some 94,some 95,some 96,some 97,some 11] [[],[],[],[],[],[],[],[],[],[],[],[],[],[],[96],[97],[97]] [0,0,2,0,8,0,32,0,128,0,512,0,2048,8190,16382,32767,65535] [pv (.slice a7 L7.length cb7),pv (Pq b24 (0+3)),pv (I7 ((gd p.ops k2).cart)),pv (Pq b24 (0+4)),pv (I7 ((gd p.ops k2).item)),pv (Pq b24 (0+5)),pv (I7 ((gd p.ops k2).qty)),pv (Pq b24 (0+2)),pv (.int .u8 ((gd p.ops k2).kind)),pv (Pq b24 (0+0)),pv (.agg (dc ((gd p.ops k2).dot)).toArray),pv (.agg (oc (gd p.ops k2)).toArray),pv (.int .u64 (QbF (gd p.ops k2))),pv (.agg (cec (⟨(gd p.ops k2).cart,(gd p.ops k2).item,(gd p.ops k2).qty,(gd p.ops k2).kind,(gd p.ops k2).dot,QbF (gd p.ops k2)⟩:Cen)).toArray),(true,fun J=>.slice (some ⟨(bOf (J 96)),0,none⟩) 1 1),(true,fun J=>.slice (aOf (J 97)) ((L7++[(⟨(gd p.ops k2).cart,(gd p.ops k2).item,(gd p.ops k2).qty,(gd p.ops k2).kind,(gd p.ops k2).dot,QbF (gd p.ops k2)⟩:Cen)]).length) (cOf (J 97))),(true,fun J=>.slice (aOf (J 97)) ((L7++[(⟨(gd p.ops k2).cart,(gd p.ops k2).item,(gd p.ops k2).qty,(gd p.ops k2).kind,(gd p.ops k2).dot,QbF (gd p.ops k2)⟩:Cen)]).length) (cOf (J 97)))] (fun D J=>[blk b1 (((vc p.base.known)++[(.slice a1 p.base.ents.length c1:Value),(.slice a2 p.base.ticks.length c2:Value) ])++[(.slice a3 p.ops.length c3:Value) ]++(vc p.known)) 43,blk b3 (vc cut) 24,blk b5 ((vc vzero)++[(.slice none 0 0:Value),(.slice none 0 0:Value) ]) 38,blk b10 [.slice a31 ((l8++[gd p.ops k2]).length) c31] 29,QgK mr12 (Value.int .u16) (Value.int .u32) (mput ((gd p.ops k2).cart) (max ((mget ((gd p.ops k2).cart) tm2).getD 0) ((gd p.ops k2).tick)) tm2),cond (D 15) (row (.slice (aOf (J 97)) ((L7++[(⟨(gd p.ops k2).cart,(gd p.ops k2).item,(gd p.ops k2).qty,(gd p.ops k2).kind,(gd p.ops k2).dot,QbF (gd p.ops k2)⟩:Cen)]).length) (cOf (J 97))) ((L7++[(⟨(gd p.ops k2).cart,(gd p.ops k2).item,(gd p.ops k2).qty,(gd p.ops k2).kind,(gd p.ops k2).dot,QbF (gd p.ops k2)⟩:Cen)]).map cec) 106 7) (row (.slice a7 L7.length cb7) (L7.map cec) 106 7),row (.slice a31 ((l8++[gd p.ops k2]).length) c31) ((l8++[gd p.ops k2]).map oc) 98 23,blk b24 (oc (gd p.ops k2)) 98,row (.slice (some ⟨b29,0,none⟩) 1 1) ([gd p.ops k2].map oc) 98 23,cond (D 14) (row (.slice (some ⟨(bOf (J 96)),0,none⟩) 1 1) ([(⟨(gd p.ops k2).cart,(gd p.ops k2).item,(gd p.ops k2).qty,(gd p.ops k2).kind,(gd p.ops k2).dot,QbF (gd p.ops k2)⟩:Cen)].map cec) 106 7) (emp)]) [16] (by kernel_rfl) hs ⟨?_,?_,?_,?_,?_,?_,?_,?_,?_,?_,?_,?_,?_,?_,?_,?_,?_,trivial⟩ ?_
   ·exact ob [] [16] rfl rfl fun D J w hs=>Qac (V:=.slice a7 L7.length cb7) rfl (Zz hs)
   ·exact oa [] fun D J w hs=>Qaf QeA rfl (Zz hs)
   ·exact oa [1] fun D J w hs=>QaQ (V:=.int .u16 ((gd p.ops k2).cart)) Qat hs 7 rfl rfl rfl (Zz hs)
   ·exact oa [] fun D J w hs=>Qaf Qdn rfl (Zz hs)
   ·exact oa [3] fun D J w hs=>QaQ (V:=.int .u16 ((gd p.ops k2).item)) Qat hs 7 rfl rfl rfl (Zz hs)
   ·exact oa [] fun D J w hs=>Qaf Qdr rfl (Zz hs)
   ·exact oa [5] fun D J w hs=>QaQ (V:=.int .u16 ((gd p.ops k2).qty)) Qat hs 7 rfl rfl rfl (Zz hs)
   ·exact oa [] fun D J w hs=>Qaf Qcf rfl (Zz hs)
   ·exact oa [7] fun D J w hs=>QaQ (V:=.int .u8 ((gd p.ops k2).kind)) QdF hs 7 rfl rfl rfl (Zz hs)
   ·exact oa [] fun D J w hs=>Qaf Qbp rfl (Zz hs)
   ·exact oa [9] fun D J w hs=>QbP (vs:=dc ((gd p.ops k2).dot)) QcH hs 7 rfl rfl rfl rfl (Zz hs)
   ·exact oa [] fun D J w hs=>QaP (cs:=oc (gd p.ops k2)) QbC hs 7 rfl rfl rfl (Zz hs)
   ·exact oa [11] fun D J w hs=>Qav (vs:=[.agg (oc (gd p.ops k2)).toArray]) (V:=.int .u64 (QbF (gd p.ops k2))) Quq rfl rfl (QhS _ (gd p.ops k2) hxk) hs fun _ hs=>Zz hs
   ·exact oa [2,4,6,8,10,12] fun D J w hs=>QbI (vs:=[(0,.int .u16 ((gd p.ops k2).cart)),(1,.int .u16 ((gd p.ops k2).item)),(2,.int .u16 ((gd p.ops k2).qty)),(3,.int .u8 ((gd p.ops k2).kind)),(4,.agg (dc ((gd p.ops k2).dot)).toArray),(5,.int .u64 (QbF (gd p.ops k2)))]) (cs:=cec (⟨(gd p.ops k2).cart,(gd p.ops k2).item,(gd p.ops k2).qty,(gd p.ops k2).kind,(gd p.ops k2).dot,QbF (gd p.ops k2)⟩:Cen)) Qp3 (rfl) rfl (Zz hs)
   ·exact oa [13] fun D J w hs=>QhP (vals:=[.agg (cec (⟨(gd p.ops k2).cart,(gd p.ops k2).item,(gd p.ops k2).qty,(gd p.ops k2).kind,(gd p.ops k2).dot,QbF (gd p.ops k2)⟩:Cen)).toArray]) (ls:=List.map cec ([(⟨(gd p.ops k2).cart,(gd p.ops k2).item,(gd p.ops k2).qty,(gd p.ops k2).kind,(gd p.ops k2).dot,QbF (gd p.ops k2)⟩:Cen)]:List Cen)) QeK rfl rfl rfl (Qbm (enc:=cec) (fun _=>rfl) _) (QaV Qbl _) (QQ8 rfl) hs fun _ _ hs=>⟨rfl,hs.put 9 (QQ8 rfl)⟩
   ·exact oa [0,14] fun D J w hs=>Qdk (ls':=(L7++[(⟨(gd p.ops k2).cart,(gd p.ops k2).item,(gd p.ops k2).qty,(gd p.ops k2).kind,(gd p.ops k2).dot,QbF (gd p.ops k2)⟩:Cen)]).map cec) (n:=(L7++[(⟨(gd p.ops k2).cart,(gd p.ops k2).item,(gd p.ops k2).qty,(gd p.ops k2).kind,(gd p.ops k2).dot,QbF (gd p.ops k2)⟩:Cen)]).length) QeK hs 5 rfl rfl rfl (hs.rd 9 rfl) (QaV Qbl _) (by simp only [QQ6,QQ7,List.length_cons,List.length_nil];omega) (by simp) (by simp) fun _ _ _ hs=>⟨rfl,hs⟩
   ·exact oa [15] fun D J w hs=>Qad (V:=.slice (aOf (J 97)) ((L7++[(⟨(gd p.ops k2).cart,(gd p.ops k2).item,(gd p.ops k2).qty,(gd p.ops k2).kind,(gd p.ops k2).dot,QbF (gd p.ops k2)⟩:Cen)]).length) (cOf (J 97))) rfl (Zz hs)
   rintro J1 w40 J2 hJ hs
   replace hJ:J2=upd (mix (sq 82 16++[11]) J1 _) 11 (.slice (aOf (J1 97)) ((L7++[(⟨(gd p.ops k2).cart,(gd p.ops k2).item,(gd p.ops k2).qty,(gd p.ops k2).kind,(gd p.ops k2).dot,QbF (gd p.ops k2)⟩:Cen)]).length) (cOf (J1 97))):=hJ
   replace hs:Own w no w40 [blk b1 (((vc p.base.known)++[(.slice a1 p.base.ents.length c1:Value),(.slice a2 p.base.ticks.length c2:Value) ])++[(.slice a3 p.ops.length c3:Value) ]++(vc p.known)) 43,blk b3 (vc cut) 24,blk b5 ((vc vzero)++[(.slice none 0 0:Value),(.slice none 0 0:Value) ]) 38,blk b10 [.slice a31 ((l8++[gd p.ops k2]).length) c31] 29,QgK mr12 (Value.int .u16) (Value.int .u32) (mput ((gd p.ops k2).cart) (max ((mget ((gd p.ops k2).cart) tm2).getD 0) ((gd p.ops k2).tick)) tm2),row (.slice (aOf (J1 97)) ((L7++[(⟨(gd p.ops k2).cart,(gd p.ops k2).item,(gd p.ops k2).qty,(gd p.ops k2).kind,(gd p.ops k2).dot,QbF (gd p.ops k2)⟩:Cen)]).length) (cOf (J1 97))) ((L7++[(⟨(gd p.ops k2).cart,(gd p.ops k2).item,(gd p.ops k2).qty,(gd p.ops k2).kind,(gd p.ops k2).dot,QbF (gd p.ops k2)⟩:Cen)]).map cec) 106 7,row (.slice a31 ((l8++[gd p.ops k2]).length) c31) ((l8++[gd p.ops k2]).map oc) 98 23,blk b24 (oc (gd p.ops k2)) 98,row (.slice (some ⟨b29,0,none⟩) 1 1) ([gd p.ops k2].map oc) 98 23,row (.slice (some ⟨(bOf (J1 96)),0,none⟩) 1 1) ([(⟨(gd p.ops k2).cart,(gd p.ops k2).item,(gd p.ops k2).qty,(gd p.ops k2).kind,(gd p.ops k2).dot,QbF (gd p.ops k2)⟩:Cen)].map cec) 106 7]:=hs
   generalize (bOf (J1 96))=b41 at hs
   generalize (aOf (J1 97))=a42 at hJ hs
   generalize (cOf (J1 97))=c43 at hJ hs
   subst hJ
   refine Qab (Qaa (QaF (a:=(k2:Int)) (b:=1) (c:=((k2+1:Nat):Int)) rfl rfl (Qak (by omega) (by omega)) (Qaa (Qac (V:=I6 ((k2+1:Nat):Int)) rfl (Qae ?_)))))
   refine ⟨_,?_,_,k2+1,a31,c31,l8++[gd p.ops k2],a42,c43,L7++[(⟨(gd p.ops k2).cart,(gd p.ops k2).item,(gd p.ops k2).qty,(gd p.ops k2).kind,(gd p.ops k2).dot,QbF (gd p.ops k2)⟩:Cen)],mput ((gd p.ops k2).cart) (max ((mget ((gd p.ops k2).cart) tm2).getD 0) ((gd p.ops k2).tick)) tm2,Qal (Qal (Qap (ds:=([11,13]++sq 46 53)) (by repeat (first|exact Agr.refl _ _|refine Agr.upd ?_ rfl|refine Agr.mix ?_ rfl))) rfl) rfl,(by omega),(Qe7 hl8 (by omega) c28),(by rw [hL7];exact Qla c36),(by rw [Qhh,← htm2]),(by simp only [QQ7,List.length_singleton];omega),(by simp only [QQ7,List.length_singleton];omega),rfl,hs.take 7⟩
   omega
  refine Qaq (Qab (Qaa (QaF (a:=(k2:Int)) (b:=1) (c:=((k2+1:Nat):Int)) rfl rfl (Qak (by omega) (by omega)) (Qaa (Qac (V:=I6 ((k2+1:Nat):Int)) rfl (Qae ?_))))))
  refine ⟨_,?_,_,k2+1,a31,c31,l8++[gd p.ops k2],a7,cb7,L7,mput ((gd p.ops k2).cart) (max ((mget ((gd p.ops k2).cart) tm2).getD 0) ((gd p.ops k2).tick)) tm2,Qal (Qal (Qap (ds:=([11,13]++sq 46 53)) (by repeat (first|exact Agr.refl _ _|refine Agr.upd ?_ rfl|refine Agr.mix ?_ rfl))) rfl) rfl,(by omega),(Qe7 hl8 (by omega) c28),(by rw [hL7];exact QnP c36),(by rw [Qhh,← htm2]),(by omega),(by simp only [QQ7,List.length_singleton];omega),rfl,hs.take 7⟩
  omega
 replace c23:=QQ2 c23
 refine QaL (Qag ?_)
 have hu:l8=Qaz p.ops cut:=by rw [hl8,QcE (by omega)]
 have hus:∀ o∈l8,o∈p.ops:=fun o h=>by rw [hu] at h;exact Qb9 h
 have hdt:∀ x∈L7,Qc9 x.dot:=by rw [hL7];exact QkO hok hus
 have htl:tm2.length<=10000:=by have:=Qse hok hr0 l8 hus;rw [← htm2] at this;omega
 have hfl:=List.length_filter_le (fun x=>!(fun x=>l8.any fun o=>QaE o (QaH x)) x) L7
 refine Qab (Qaa (Qac (V:=.slice a7 L7.length cb7) rfl (Qaa (Qc3 (cs:=[Pq b10 0]) rfl rfl (Qaa (QiU (α:=Unit) (vs:=[.slice a7 L7.length cb7,.func (.func 43) #[] #[Pq b10 0]]) (V:=fun _=>.slice a7 (L7.filter fun x=>!(fun x=>l8.any fun o=>QaE o (QaH x)) x).length cb7) (R:=row (.slice a7 L7.length cb7) (L7.map cec) 106 7) (R':=fun _=>row (.slice a7 (L7.filter fun x=>!(fun x=>l8.any fun o=>QaE o (QaH x)) x).length cb7) ((L7.filter fun x=>!(fun x=>l8.any fun o=>QaE o (QaH x)) x).map cec) 106 7) (Lo:=fun _=>[]) (F:=fun _ _=>True) Qt0 rfl rfl hs 5 rfl (fun S hS hlS hK=>Qin _ S a7 cb7 L7 43 [Pq b10 0] Qu4 (fun x=>l8.any fun o=>QaE o (QaH x)) (fun w1 L1 h x hx=>Qmn w1 x b10 a8 cb8 l8 (hdt x hx) ((hK 3 (by decide) _ rfl).cells h) ((hK 6 (by decide) _ rfl).rd h)) hS hlS) fun _ w44 hs _=>(Qaa (Qad (V:=.slice a7 ((L7.filter fun x=>!(fun x=>l8.any fun o=>QaE o (QaH x)) x).length) cb7) rfl (Qae (Qag (Qab (Qaa (Qac (V:=.slice a7 ((L7.filter fun x=>!(fun x=>l8.any fun o=>QaE o (QaH x)) x).length) cb7) rfl (Qaa (Qbt (α:={ m:List Cen // Qkt (L7.filter fun x=>!(fun x=>l8.any fun o=>QaE o (QaH x)) x) m }) (vs:=[.slice a7 ((L7.filter fun x=>!(fun x=>l8.any fun o=>QaE o (QaH x)) x).length) cb7,.func (.func 49) #[] #[]]) (V:=fun _=>.tuple #[]) (R:=row (.slice a7 ((L7.filter fun x=>!(fun x=>l8.any fun o=>QaE o (QaH x)) x).length) cb7) ((L7.filter fun x=>!(fun x=>l8.any fun o=>QaE o (QaH x)) x).map cec) 106 7) (R':=fun x=>row (.slice a7 ((L7.filter fun x=>!(fun x=>l8.any fun o=>QaE o (QaH x)) x).length) cb7) (x.1.map cec) 106 7) (Lo:=fun _=>[]) (F:=fun _ _=>True) Qvj rfl rfl hs 5 rfl (fun S hS hlt=>hsortE _ S _ _ _ hS hlt (by omega)) fun sx46 w45 hs _=>?_)))))))))))))))
 replace hs:Own w no w45 [blk b1 (((vc p.base.known)++[(.slice a1 p.base.ents.length c1:Value),(.slice a2 p.base.ticks.length c2:Value) ])++[(.slice a3 p.ops.length c3:Value) ]++(vc p.known)) 43,blk b3 (vc cut) 24,blk b5 ((vc vzero)++[(.slice none 0 0:Value),(.slice none 0 0:Value) ]) 38,blk b10 [.slice a8 l8.length cb8] 29,QgK mr12 (Value.int .u16) (Value.int .u32) tm2,row (.slice a7 ((L7.filter fun x=>!(fun x=>l8.any fun o=>QaE o (QaH x)) x).length) cb7) (sx46.1.map cec) 106 7,row (.slice a8 l8.length cb8) (l8.map oc) 98 23]:=hs
 refine Qae (Qag (Qab (Qaa (QaP (cs:=vc cut) Qbs hs 1 rfl rfl rfl (Qaa (Qac (V:=.slice a7 ((L7.filter fun x=>!(fun x=>l8.any fun o=>QaE o (QaH x)) x).length) cb7) rfl (Qaa (QcA (vs:=[(0,.agg (vc cut).toArray),(1,.slice a7 ((L7.filter fun x=>!(fun x=>l8.any fun o=>QaE o (QaH x)) x).length) cb7)]) (cs:=(vc cut)++[(.slice a7 ((L7.filter fun x=>!(fun x=>l8.any fun o=>QaE o (QaH x)) x).length) cb7:Value),(.slice none 0 0:Value) ]) [vc vzero,[(.slice none 0 0:Value)],[(.slice none 0 0:Value)]] [vc cut,[(.slice a7 ((L7.filter fun x=>!(fun x=>l8.any fun o=>QaE o (QaH x)) x).length) cb7:Value)],[(.slice none 0 0:Value)]] Qlx rfl (rfl) rfl rfl (Qaa (QaM (cs:=(vc vzero)++[(.slice none 0 0:Value),(.slice none 0 0:Value) ]) QfI rfl hs fun b47 w48 hs=>(Qaa (QcG (V:=.agg ((vc cut)++[(.slice a7 ((L7.filter fun x=>!(fun x=>l8.any fun o=>QaE o (QaH x)) x).length) cb7:Value),(.slice none 0 0:Value) ]).toArray) (vs:=(vc cut)++[(.slice a7 ((L7.filter fun x=>!(fun x=>l8.any fun o=>QaE o (QaH x)) x).length) cb7:Value),(.slice none 0 0:Value) ]) (cs':=(vc cut)++[(.slice a7 ((L7.filter fun x=>!(fun x=>l8.any fun o=>QaE o (QaH x)) x).length) cb7:Value),(.slice none 0 0:Value) ]) QbR.1 hs 7 rfl rfl rfl rfl rfl (QQ8 rfl) (Qbn (QbS _) (Qau rfl (Qau rfl QaY))) (QaA rfl) fun w49 hs=>(Qae (Qag (Qag (Qab (Qaa (Qac (V:=.map (some mr12)) rfl (Qaa (Qbk (vs:=[.map (some mr12)]) (V:=fun x:Option Addr × Nat=>.slice x.1 (Qa7 (tm2.map (·.1))).length x.2) QvO rfl rfl (QnK _ mr12 tm2 (hs.mapf 4 rfl) (by omega) hsortU) hs fun x50 w51 hs _=>(Qaa (Qa3 (n:=(Qa7 (tm2.map (·.1))).length) QaN (hs.rd 8 rfl) (by simp) rfl (Qaa (Qac (V:=I6 0) rfl (Qae (Qan ?_))))))))))))))))))))))))))
 have hks:(Qa7 (tm2.map (·.1))).length<=10000:=by rw [QeL,QQ6];exact htl
 replace hs:=hs.more (row (.slice none 0 0) (List.map lsc []) 102 2) (Qbf _ _ _ _)
 refine QaG (fun J μ J' w'=>∃ (Jo:Env) (k3:Nat) (a9:Option Addr) (cb9:Nat) (T9:List Lst),J'=upd (mix ([16]++sq 110 15) Jo J) 110 (I6 (k3:Int))/\(k3<=(Qa7 (tm2.map (·.1))).length)/\(T9=((Qa7 (tm2.map (·.1))).take k3).map (tkL tm2))/\(T9.length<=k3)/\μ=(Qa7 (tm2.map (·.1))).length-k3/\Own w no w' [blk b1 (((vc p.base.known)++[(.slice a1 p.base.ents.length c1:Value),(.slice a2 p.base.ticks.length c2:Value) ])++[(.slice a3 p.ops.length c3:Value) ]++(vc p.known)) 43,blk b3 (vc cut) 24,blk b5 ((vc vzero)++[(.slice none 0 0:Value),(.slice none 0 0:Value) ]) 38,blk b10 [.slice a8 l8.length cb8] 29,QgK mr12 (Value.int .u16) (Value.int .u32) tm2,row (.slice a7 ((L7.filter fun x=>!(fun x=>l8.any fun o=>QaE o (QaH x)) x).length) cb7) (sx46.1.map cec) 106 7,row (.slice a8 l8.length cb8) (l8.map oc) 98 23,blk b47 ((vc cut)++[(.slice a7 ((L7.filter fun x=>!(fun x=>l8.any fun o=>QaE o (QaH x)) x).length) cb7:Value),(.slice a9 T9.length cb9:Value) ]) 38,row (.slice x50.1 ((Qa7 (tm2.map (·.1))).length) x50.2) ((Qa7 (tm2.map (·.1))).map (ic .u16)) 32 1,row (.slice a9 T9.length cb9) (T9.map lsc) 102 2]) ?_ ?_
 ·exact ⟨_,_,0,none,0,[],Qal (Qap (ds:=([16]++sq 110 15)) (Agr.refl _ _)) rfl,(by omega),rfl,(Nat.le_refl _),rfl,hs⟩
 rintro μ J' w52 ⟨Jo,k3,a9,cb9,T9,rfl,hk3,hT9,hn9,rfl,hs⟩
 refine Qag (Qab (Qaa (Qa2 rfl rfl (Qae (Qag (Qam (t:=decide ((k3:Int)<(((Qa7 (tm2.map (·.1))).length:Nat):Int))) rfl (fun c53=>?_) (fun c53=>?_)))))))
 ·
  replace c53:=QQ1 c53
  refine Qaq (Qag (Qan (Qag (Qab (Qaa (Qax QaN Qat.1 (hs.rd 8 rfl) rfl rfl (by omega) (by rw [QQ6];omega) (Qaa (QaW (j:=0) (V:=I7 (gd (Qa7 (tm2.map (·.1))) k3)) k3 Qat (hs.rd 8 rfl) (Qba (by omega)) rfl rfl (by omega) (Qaa (Qad (V:=I7 (gd (Qa7 (tm2.map (·.1))) k3)) rfl (Qae (Qab (Qaa (Qaf QcI rfl (Qaa (QaQ (V:=.slice a9 T9.length cb9) Qfr hs 7 rfl rfl rfl (Qaa (Qac (V:=I7 (gd (Qa7 (tm2.map (·.1))) k3)) rfl (Qaa (Qac (V:=.map (some mr12)) rfl (Qaa (Qac (V:=I7 (gd (Qa7 (tm2.map (·.1))) k3)) rfl (Qaa (Qix (k:=gd (Qa7 (tm2.map (·.1))) k3) (z:=0) QhT QpH Qtx (hs.mapf 4 rfl) rfl rfl (Qaa (QbI (vs:=[(0,I7 (gd (Qa7 (tm2.map (·.1))) k3)),(1,.int .u32 ((mget (gd (Qa7 (tm2.map (·.1))) k3) tm2).getD 0))]) (cs:=lsc (⟨gd (Qa7 (tm2.map (·.1))) k3,(mget (gd (Qa7 (tm2.map (·.1))) k3) tm2).getD 0⟩:Lst)) Qqa (rfl) rfl (Qaa (QhP (vals:=[.agg (lsc (⟨gd (Qa7 (tm2.map (·.1))) k3,(mget (gd (Qa7 (tm2.map (·.1))) k3) tm2).getD 0⟩:Lst)).toArray]) (ls:=List.map lsc ([(⟨gd (Qa7 (tm2.map (·.1))) k3,(mget (gd (Qa7 (tm2.map (·.1))) k3) tm2).getD 0⟩:Lst)]:List Lst)) Qgu rfl rfl rfl (Qbm (enc:=lsc) (fun _=>rfl) _) (QaV Qcg _) (QQ8 rfl) hs fun b54 w55 hs=>?_))))))))))))))))))))))))))))
  replace hs:Own w no w55 [blk b1 (((vc p.base.known)++[(.slice a1 p.base.ents.length c1:Value),(.slice a2 p.base.ticks.length c2:Value) ])++[(.slice a3 p.ops.length c3:Value) ]++(vc p.known)) 43,blk b3 (vc cut) 24,blk b5 ((vc vzero)++[(.slice none 0 0:Value),(.slice none 0 0:Value) ]) 38,blk b10 [.slice a8 l8.length cb8] 29,QgK mr12 (Value.int .u16) (Value.int .u32) tm2,row (.slice a7 ((L7.filter fun x=>!(fun x=>l8.any fun o=>QaE o (QaH x)) x).length) cb7) (sx46.1.map cec) 106 7,row (.slice a8 l8.length cb8) (l8.map oc) 98 23,blk b47 ((vc cut)++[(.slice a7 ((L7.filter fun x=>!(fun x=>l8.any fun o=>QaE o (QaH x)) x).length) cb7:Value),(.slice a9 T9.length cb9:Value) ]) 38,row (.slice x50.1 ((Qa7 (tm2.map (·.1))).length) x50.2) ((Qa7 (tm2.map (·.1))).map (ic .u16)) 32 1,row (.slice a9 T9.length cb9) (T9.map lsc) 102 2,row (.slice (some ⟨b54,0,none⟩) 1 1) ([(⟨gd (Qa7 (tm2.map (·.1))) k3,(mget (gd (Qa7 (tm2.map (·.1))) k3) tm2).getD 0⟩:Lst)].map lsc) 102 2]:=hs
  refine Qaa (Qdk (ls':=(T9++[(⟨gd (Qa7 (tm2.map (·.1))) k3,(mget (gd (Qa7 (tm2.map (·.1))) k3) tm2).getD 0⟩:Lst)]).map lsc) (n:=(T9++[(⟨gd (Qa7 (tm2.map (·.1))) k3,(mget (gd (Qa7 (tm2.map (·.1))) k3) tm2).getD 0⟩:Lst)]).length) Qgu hs 9 rfl rfl rfl (hs.rd 10 rfl) (QaV Qcg _) (by simp only [QQ6,QQ7,List.length_cons,List.length_nil];omega) (by simp) (by simp) fun a56 c56 w57 hs=>(Qaa (Qaf QcI rfl (Qaa (Qc0 (V:=.slice a56 ((T9++[(⟨gd (Qa7 (tm2.map (·.1))) k3,(mget (gd (Qa7 (tm2.map (·.1))) k3) tm2).getD 0⟩:Lst)]).length) c56) (cs':=(vc cut)++[(.slice a7 ((L7.filter fun x=>!(fun x=>l8.any fun o=>QaE o (QaH x)) x).length) cb7:Value),(.slice a56 ((T9++[(⟨gd (Qa7 (tm2.map (·.1))) k3,(mget (gd (Qa7 (tm2.map (·.1))) k3) tm2).getD 0⟩:Lst)]).length) c56:Value) ]) Qfr hs 7 rfl rfl rfl rfl (QQ8 rfl) rfl fun w58 hs=>(Qae (Qab (Qaa (QaF (a:=(k3:Int)) (b:=1) (c:=((k3+1:Nat):Int)) rfl rfl (Qak (by omega) (by omega)) (Qaa (Qac (V:=I6 ((k3+1:Nat):Int)) rfl (Qae ?_))))))))))))
  refine ⟨_,?_,_,k3+1,a56,c56,T9++[(⟨gd (Qa7 (tm2.map (·.1))) k3,(mget (gd (Qa7 (tm2.map (·.1))) k3) tm2).getD 0⟩:Lst)],Qal (Qap (ds:=([16]++sq 110 15)) (by repeat (first|exact Agr.refl _ _|refine Agr.upd ?_ rfl|refine Agr.mix ?_ rfl))) rfl,(by omega),(Qkp (f:=tkL tm2) hT9 (by omega)),(by simp only [QQ7,List.length_singleton];omega),rfl,hs.take 10⟩
  omega
 replace c53:=QQ2 c53
 refine QaL (Qag (Qab (Qaa (QaP (cs:=(vc cut)++[(.slice a7 ((L7.filter fun x=>!(fun x=>l8.any fun o=>QaE o (QaH x)) x).length) cb7:Value),(.slice a9 T9.length cb9:Value) ]) QbR hs 7 rfl rfl rfl (Qaa (QcG (V:=.agg ((vc cut)++[(.slice a7 ((L7.filter fun x=>!(fun x=>l8.any fun o=>QaE o (QaH x)) x).length) cb7:Value),(.slice a9 T9.length cb9:Value) ]).toArray) (vs:=(vc cut)++[(.slice a7 ((L7.filter fun x=>!(fun x=>l8.any fun o=>QaE o (QaH x)) x).length) cb7:Value),(.slice a9 T9.length cb9:Value) ]) (cs':=(vc cut)++[(.slice a7 ((L7.filter fun x=>!(fun x=>l8.any fun o=>QaE o (QaH x)) x).length) cb7:Value),(.slice a9 T9.length cb9:Value) ]) QbR.1 hs 2 rfl rfl rfl rfl rfl (QQ8 rfl) (Qbn (QbS _) (Qau rfl (Qau rfl QaY))) (QaA rfl) fun w59 hs=>?_))))))
 replace hs:Own w no w59 [blk b1 (((vc p.base.known)++[(.slice a1 p.base.ents.length c1:Value),(.slice a2 p.base.ticks.length c2:Value) ])++[(.slice a3 p.ops.length c3:Value) ]++(vc p.known)) 43,blk b3 (vc cut) 24,blk b5 ((vc cut)++[(.slice a7 ((L7.filter fun x=>!(fun x=>l8.any fun o=>QaE o (QaH x)) x).length) cb7:Value),(.slice a9 T9.length cb9:Value) ]) 38,blk b10 [.slice a8 l8.length cb8] 29,QgK mr12 (Value.int .u16) (Value.int .u32) tm2,row (.slice a7 ((L7.filter fun x=>!(fun x=>l8.any fun o=>QaE o (QaH x)) x).length) cb7) (sx46.1.map cec) 106 7,row (.slice a8 l8.length cb8) (l8.map oc) 98 23,blk b47 ((vc cut)++[(.slice a7 ((L7.filter fun x=>!(fun x=>l8.any fun o=>QaE o (QaH x)) x).length) cb7:Value),(.slice a9 T9.length cb9:Value) ]) 38,row (.slice x50.1 ((Qa7 (tm2.map (·.1))).length) x50.2) ((Qa7 (tm2.map (·.1))).map (ic .u16)) 32 1,row (.slice a9 T9.length cb9) (T9.map lsc) 102 2]:=hs
 refine Qaa (Qad (V:=I6 0) rfl (Qae (Qaw ?_)))
 refine ⟨_,Qcj (cs:=(vc cut)++[(.slice a7 ((L7.filter fun x=>!(fun x=>l8.any fun o=>QaE o (QaH x)) x).length) cb7:Value),(.slice a9 T9.length cb9:Value) ]) (V:=I6 0) Tryz.results12 QbR hs 2 rfl rfl rfl rfl,?_⟩
 have hmz:=c8
 have hTT:T9=(Qa7 (tm2.map (·.1))).map (tkL tm2):=by rw [hT9,QcE (by omega)]
 have hX:=Qju hok hmz hu hL7 sx46.2 htm2 hTT
 have hml:=sx46.2.1.length_eq.symm
 rw [hX,hmz]
 rw [hml] at hs ⊢
 exact ⟨((a7,cb7),(a9,cb9)),rfl,hs.two 5 9 (by decide) rfl rfl,trivial⟩
end Tt
end Go.Proofs
