/- A part of a proof: what functions of the program compute, and plain facts on that. -/
import Derived.Test.YtbjbjboehjdcaaaGreatCutsBetweenP4
set_option linter.unusedVariables false
set_option linter.unusedSimpArgs false
set_option maxHeartbeats 4000000
set_option maxRecDepth 100000
namespace Go.Proofs
open Go Go.Vx Go.RowKit
namespace Tt
theorem Qpk (w:World) (a:Option Addr) (c:Nat) (l:List Opn) (d:Dot) (hr:Rd w (.slice a l.length c) 23 (l.map oc)):Calls Tryz.prog 113 #[.slice a l.length c,.agg (dc d).toArray] w (fun e w'=>e = .returned (.bool (l.any fun o=>decide (o.dot=d)))/\Own w no w' []):=by
 refine Qai (n:=19) Tryz.func113 rfl Tryz.ntmps113 rfl ?_
 have hs:=Own.start w
 have hn:=hr.sml
 refine Qag (Qab (Qaa (Qa4 (V:=.agg (dc d).toArray) (cs:=dc d) rfl rfl hs fun b1 w2 hs=>(Qaa (Qad (V:=.bool false) rfl (Qae (Qag (Qag (Qab (Qaa (Qad (V:=I6 0) rfl (Qae (Qan (QaD (fun J μ J' w'=>∃ (Jo:Env) (k:Nat),J'=upd (mix (sq 4 15) Jo J) 5 (I6 (k:Int))/\(k<=l.length)/\(∀ j:Nat,j<k->decide ((gd l j).dot=d)=false)/\μ=l.length-k/\Own w no w' [blk b1 (dc d) 96]) ?_ ?_))))))))))))))
 ·exact ⟨_,_,0,Qal (Qap (ds:=(sq 4 15)) (Agr.refl _ _)) rfl,(by omega),(fun j hj=>absurd hj (Nat.not_lt_zero j)),rfl,hs⟩
 rintro μ J' w3 ⟨Jo,k,rfl,hk,hno,rfl,hs⟩
 refine Qag (Qag (Qab (Qaa (Qac (V:=I6 (k:Int)) rfl (Qaa (Qac (V:=.slice a l.length c) rfl (Qaa (Qa3 (n:=l.length) Qco (Rd.own' hr hs) (by simp) rfl (Qaa (Qa2 rfl rfl (Qae (Qam (t:=decide ((k:Int)<((l.length:Nat):Int))) rfl (fun c4=>?_) (fun c4=>?_)))))))))))))
 ·
  replace c4:=QQ1 c4
  refine Qao (Qag (Qan (Qag (QaH HM [some 12,some 13,some 14,some 15,some 16,some 17,some 18] [] [0,0,3,7,15,0,63] [pv (.slice a l.length c),pv (I6 (k:Int)),pv (.pointer (some ⟨bkS (.slice a l.length c),ofS (.slice a l.length c)+(k:Int).toNat*23,none⟩)),pv (.pointer (some ⟨bkS (.slice a l.length c),ofS (.slice a l.length c)+(k:Int).toNat*23+0,none⟩)),pv (.agg (dc ((gd l k).dot)).toArray),pv (.agg (dc d).toArray),pv (.bool (decide ((gd l k).dot=d)))] (fun _ _=>_) [6] (by kernel_rfl) hs ⟨?_,?_,?_,?_,?_,?_,?_,trivial⟩ ?_))))
  ·exact oa [] fun D J w hs=>Qac (V:=.slice a l.length c) rfl (Zz hs)
  ·exact oa [] fun D J w hs=>Qac (V:=.int .i64 (k:Int)) rfl (Zz hs)
  ·exact oa [0,1] fun D J w hs=>Qax Qco QbB.1 (Rd.own' hr hs) rfl rfl (by omega) (by rw [QQ6];omega) (Zz hs)
  ·exact oa [2] fun D J w hs=>Qaf Qbp rfl (Zz hs)
  ·exact oa [3] fun D J w hs=>Qbb (j:=0) (vs:=dc ((gd l k).dot)) k QcL (Rd.own' hr hs) (Qba (by omega)) rfl rfl rfl (by omega) (Zz hs)
  ·exact oa [] fun D J w hs=>QaL (cs:=dc d) QcL hs 0 rfl rfl rfl (Zz hs)
  ·exact oa [4,5] fun D J w hs=>QoR (xs:=dc ((gd l k).dot)) (ys:=dc d) Tryz.eqGuardType96 (QtZ ((gd l k).dot) d) rfl rfl rfl (Zz hs)
  rintro J1 w5 J2 hJ hs
  replace hJ:J2=upd (mix (sq 12 7) J1 _) 18 (.bool (decide ((gd l k).dot=d))):=hJ
  subst hJ
  refine Qam (t:=decide ((gd l k).dot=d)) rfl (fun c6=>?_) (fun c6=>?_)
  ·
   replace c6:=QQ1 c6
   refine Qag (Qab (Qaa (Qad (V:=.bool true) rfl (Qae (Qaw ?_)))))
   refine ⟨_,Qaq (V:=.bool true) Tryz.results113 rfl,(Zr hs ?_)⟩
   exact congrArg Value.bool (QqC (p:=fun o:Opn=>decide (o.dot=d)) (k:=k) (by omega) (QQ3 c6)).symm
  replace c6:=QQ2 c6
  refine Qao (Qab (Qaa (Qac (V:=I6 (k:Int)) rfl (Qaa (QaF (a:=(k:Int)) (b:=1) (c:=(k:Int)+1) rfl rfl (QbE (by omega) (by omega)) (Qaa (Qad (V:=I6 ((k:Int)+1)) rfl (Qae ?_))))))))
  refine ⟨_,?_,_,k+1,Qal (Qap (ds:=(sq 4 15)) (by repeat (first|exact Agr.refl _ _|refine Agr.upd ?_ rfl|refine Agr.mix ?_ rfl))) rfl,(by omega),(Qsg (p:=fun o:Opn=>decide (o.dot=d)) hno (QQ4 c6)),rfl,hs.take 1⟩
  omega
 replace c4:=QQ2 c4
 refine QaJ (Qag (Qab (Qaa (Qad (V:=.bool false) rfl (Qae (Qaw ?_))))))
 refine ⟨_,Qaq (V:=.bool false) Tryz.results113 rfl,(Zr hs ?_)⟩
 exact congrArg Value.bool (Qkw (p:=fun o:Opn=>decide (o.dot=d)) fun j hj=>hno j (by omega)).symm
theorem QnT (w:World) (a:Option Addr) (c:Nat) (l:List Opn) (v:Vec) (rep:Int) (hl:∀ o∈l,Qcc o) (hlen:l.length<=1000) (hr:Rd w (.slice a l.length c) 23 (l.map oc)):Calls Tryz.prog 114 #[.slice a l.length c,.agg (vc v).toArray,.int .i64 rep] w (fun e w'=>e = .returned (.int .u32 (QgZ l v rep))/\Own w no w' []):=by
 refine Qai (n:=36) Tryz.func114 rfl Tryz.ntmps114 rfl ?_
 have hs:=Own.start w
 have hn:=hr.sml
 refine Qag (Qab (Qaa (Qa4 (V:=.agg (vc v).toArray) (cs:=vc v) rfl rfl hs fun b1 w2 hs=>(Qaa (Qad (V:=.int .u32 0) rfl (Qae (Qag (Qab (Qaa (Qad (V:=.int .u32 0) rfl (Qae (Qag (Qag (Qab (Qaa (Qad (V:=I6 0) rfl (Qae (Qan (QaD (fun J μ J' w'=>∃ (Jo:Env) (k:Nat) (n:Int),J'=upd (upd (mix (sq 7 28) Jo J) 8 (I6 (k:Int))) 7 (.int .u32 n)/\(k<=l.length)/\(n=QgZ (l.take k) v rep)/\(0<=n/\n<=k)/\μ=l.length-k/\Own w no w' [blk b1 (vc v) 24]) ?_ ?_)))))))))))))))))))
 ·exact ⟨_,_,0,0,Qal (Qal (Qap (ds:=(sq 7 28)) (Agr.refl _ _)) rfl) rfl,(by omega),rfl,(by omega),rfl,hs⟩
 rintro μ J' w3 ⟨Jo,k,n,rfl,hk,hn2,hnb,rfl,hs⟩
 refine Qag (Qag (Qab (Qaa (Qac (V:=I6 (k:Int)) rfl (Qaa (Qac (V:=.slice a l.length c) rfl (Qaa (Qa3 (n:=l.length) Qco (Rd.own' hr hs) (by simp) rfl (Qaa (Qa2 rfl rfl (Qae (Qam (t:=decide ((k:Int)<((l.length:Nat):Int))) rfl (fun c4=>?_) (fun c4=>?_)))))))))))))
 ·
  replace c4:=QQ1 c4
  refine Qao (Qag (Qan (Qag ?_)))
  have hok:=hl _ (QbG (l:=l) (i:=k) (by omega))
  have hdk:=hok.1
  have ⟨⟨hr1,hr2⟩,hr3,hr4⟩:=hdk
  refine QaH HM [some 15,some 16,some 17,some 18,some 19,some 20,some 21,some 22,some 23,some 24,some 25,some 26,some 27,some 28,some 29,some 30,some 31,some 32] [] [0,0,3,7,15,31,63,0,255,511,1023,1023,1023,7167,15359,31743,65535,131071] [pv (.slice a l.length c),pv (I6 (k:Int)),pv (.pointer (some ⟨bkS (.slice a l.length c),ofS (.slice a l.length c)+(k:Int).toNat*23,none⟩)),pv (.pointer (some ⟨bkS (.slice a l.length c),ofS (.slice a l.length c)+(k:Int).toNat*23+0,none⟩)),pv (.pointer (some ⟨bkS (.slice a l.length c),ofS (.slice a l.length c)+(k:Int).toNat*23+0+0,none⟩)),pv (.int .u8 (((gd l k).dot).rep)),pv (I6 (((gd l k).dot).rep)),pv (I6 rep),pv (.bool (decide (((gd l k).dot).rep=rep))),pv (.bool (decide (((gd l k).dot).rep=rep))),pg ((decide (((gd l k).dot).rep=rep)) == true) (.agg (vc v).toArray),pg ((decide (((gd l k).dot).rep=rep)) == true) (.slice a l.length c),pg ((decide (((gd l k).dot).rep=rep)) == true) (I6 (k:Int)),pg ((decide (((gd l k).dot).rep=rep)) == true) (.pointer (some ⟨bkS (.slice a l.length c),ofS (.slice a l.length c)+(k:Int).toNat*23,none⟩)),pg ((decide (((gd l k).dot).rep=rep)) == true) (.pointer (some ⟨bkS (.slice a l.length c),ofS (.slice a l.length c)+(k:Int).toNat*23+0,none⟩)),pg ((decide (((gd l k).dot).rep=rep)) == true) (.agg (dc ((gd l k).dot)).toArray),pg ((decide (((gd l k).dot).rep=rep)) == true) (.bool (Qbv v ((gd l k).dot))),pv (.bool ((decide (((gd l k).dot).rep=rep))&&(Qbv v ((gd l k).dot))))] (fun _ _=>_) [17] (by kernel_rfl) hs ⟨?_,?_,?_,?_,?_,?_,?_,?_,?_,?_,?_,?_,?_,?_,?_,?_,?_,?_,trivial⟩ ?_
  ·exact oa [] fun D J w hs=>Qac (V:=.slice a l.length c) rfl (Zz hs)
  ·exact oa [] fun D J w hs=>Qac (V:=.int .i64 (k:Int)) rfl (Zz hs)
  ·exact oa [0,1] fun D J w hs=>Qax Qco QbB.1 (Rd.own' hr hs) rfl rfl (by omega) (by rw [QQ6];omega) (Zz hs)
  ·exact oa [2] fun D J w hs=>Qaf Qbp rfl (Zz hs)
  ·exact oa [3] fun D J w hs=>Qaf QbZ rfl (Zz hs)
  ·exact oa [4] fun D J w hs=>QaW (j:=0) (V:=.int .u8 (((gd l k).dot).rep)) k Qdw (Rd.own' hr hs) (Qba (by omega)) rfl rfl (by omega) (Zz hs)
  ·exact oa [5] fun D J w hs=>Qcl Qvg QhS rfl (QbE (by omega) (by omega)) (Zz hs)
  ·exact oa [] fun D J w hs=>Qac (V:=.int .i64 rep) rfl (Zz hs)
  ·exact oa [6,7] fun D J w hs=>QaZ rfl rfl (Zz hs)
  ·exact oa [8] fun D J w hs=>Qac (V:=.bool (decide (((gd l k).dot).rep=rep))) rfl (Zz hs)
  ·exact og [9] fun D J w hG hs=>QaL (cs:=vc v) Qbk hs 0 rfl rfl rfl (Zz hs)
  ·exact og [9] fun D J w hG hs=>Qac (V:=.slice a l.length c) rfl (Zz hs)
  ·exact og [9] fun D J w hG hs=>Qac (V:=.int .i64 (k:Int)) rfl (Zz hs)
  ·refine oy [9,11,12] [11,12] fun D J w hG hs=>?_
   have hgd:=QQ1 (eq_of_beq (hG))
   exact Qax Qco QbB.1 (Rd.own' hr hs) rfl rfl (by omega) (by rw [QQ6];omega) (Zz hs)
  ·exact oy [9,13] [13] fun D J w hG hs=>Qaf Qbp rfl (Zz hs)
  ·refine oy [9,14] [14] fun D J w hG hs=>?_
   have hgd:=QQ1 (eq_of_beq (hG))
   exact Qbb (j:=0) (vs:=dc ((gd l k).dot)) k QcL (Rd.own' hr hs) (Qba (by omega)) rfl rfl rfl (by omega) (Zz hs)
  ·refine oy [9,10,15] [10,15] fun D J w hG hs=>?_
   have hgd:=QQ1 (eq_of_beq (hG))
   exact Qat (vs:=[.agg (vc v).toArray,.agg (dc ((gd l k).dot)).toArray]) (V:=.bool (Qbv v ((gd l k).dot))) Qnj rfl rfl (Qf6 _ v ((gd l k).dot) (by first|assumption|exact QcP (by omega) (by omega) (by omega) (by omega))) hs fun _ hs=>Zz hs
  ·exact oa [9,16] fun D J w hs=>Qbn (h':=Qbv v ((gd l k).dot)) rfl rfl rfl (Zz hs)
  rintro J1 w6 J2 hJ hs
  replace hJ:J2=upd (mix (sq 15 18) J1 _) 32 (.bool ((decide (((gd l k).dot).rep=rep))&&(Qbv v ((gd l k).dot)))):=hJ
  subst hJ
  refine Qam (t:=(decide (((gd l k).dot).rep=rep))&&(Qbv v ((gd l k).dot))) rfl (fun c7=>?_) (fun c7=>?_)
  ·
   have c7r:=Qcy c7
   replace c7:=Qb3 c7
   replace c7:=QQ1 c7
   refine Qab (Qaa (Qac (V:=.int .u32 n) rfl (Qaa (QaF (a:=n) (b:=1) (c:=n+1) rfl rfl (QgN (by omega) (by omega)) (Qaa (Qad (V:=.int .u32 (n+1)) rfl (Qae (Qab (Qaa (Qac (V:=I6 (k:Int)) rfl (Qaa (QaF (a:=(k:Int)) (b:=1) (c:=(k:Int)+1) rfl rfl (QbE (by omega) (by omega)) (Qaa (Qad (V:=I6 ((k:Int)+1)) rfl (Qae ?_)))))))))))))))
   refine ⟨_,?_,_,k+1,n+1,Qal (Qal (Qap (ds:=(sq 7 28)) (by repeat (first|exact Agr.refl _ _|refine Agr.upd ?_ rfl|refine Agr.mix ?_ rfl))) rfl) rfl,(by omega),(QqZ hn2 (by omega) c7 c7r),(by omega),rfl,hs.take 1⟩
   omega
  refine Qao (Qab (Qaa (Qac (V:=I6 (k:Int)) rfl (Qaa (QaF (a:=(k:Int)) (b:=1) (c:=(k:Int)+1) rfl rfl (QbE (by omega) (by omega)) (Qaa (Qad (V:=I6 ((k:Int)+1)) rfl (Qae ?_))))))))
  refine ⟨_,?_,_,k+1,n,Qal (Qal (Qap (ds:=(sq 7 28)) (by repeat (first|exact Agr.refl _ _|refine Agr.upd ?_ rfl|refine Agr.mix ?_ rfl))) rfl) rfl,(by omega),(Qtv hn2 (by omega) c7),(by omega),rfl,hs.take 1⟩
  omega
 replace c4:=QQ2 c4
 refine QaJ (Qag (Qab (Qaa (Qac (V:=.int .u32 n) rfl (Qaa (Qad (V:=.int .u32 n) rfl (Qae (Qaw ?_))))))))
 refine ⟨_,Qaq (V:=.int .u32 n) Tryz.results114 rfl,(Zr hs ?_)⟩
 rw [hn2,Qcz (by omega)]
theorem Qge (w:World) (a:Option Addr) (c:Nat) (l:List Opn) (hl:∀ o∈l,Qcc o) (hlen:l.length<=1000) (hr:Rd w (.slice a l.length c) 23 (l.map oc)):Calls Tryz.prog 70 #[.slice a l.length c] w (fun e w'=>e = .returned (.bool (Qbc l))/\Own w no w' []):=by
 refine Qai (n:=57) Tryz.func70 rfl Tryz.ntmps70 rfl ?_
 have hs:=Own.start w
 have hn:=hr.sml
 refine Qag (Qab (Qaa (Qad (V:=.bool false) rfl (Qae (Qag (Qag (Qab (Qaa (Qad (V:=I6 0) rfl (Qae (Qan (QaD (fun J μ J' w'=>∃ (Jo:Env) (k:Nat),J'=upd (mix ([2,3]++sq 6 24) Jo J) 3 (I6 (k:Int))/\(k<=l.length)/\(∀ j:Nat,j<k->Qn4 l j=false)/\μ=l.length-k/\Own w no w' []) ?_ ?_))))))))))))
 ·exact ⟨_,_,0,Qal (Qap (ds:=([2,3]++sq 6 24)) (Agr.refl _ _)) rfl,(by omega),(fun j hj=>absurd hj (Nat.not_lt_zero j)),rfl,hs⟩
 rintro μ J' w1 ⟨Jo,k,rfl,hk,hbad,rfl,hs⟩
 refine Qag (Qag (Qab (Qaa (Qac (V:=I6 (k:Int)) rfl (Qaa (Qac (V:=.slice a l.length c) rfl (Qaa (Qa3 (n:=l.length) Qco (Rd.own' hr hs) (by simp) rfl (Qaa (Qa2 rfl rfl (Qae (Qam (t:=decide ((k:Int)<((l.length:Nat):Int))) rfl (fun c2=>?_) (fun c2=>?_)))))))))))))
 ·
  replace c2:=QQ1 c2
  refine Qao (Qag (Qan (Qag ?_)))
  have hok:=hl _ (QbG (l:=l) (i:=k) (by omega))
  have hdk:=hok.1
  refine QaH HM [some 12,some 13,some 14,some 15,some 16,some 17,some 18,some 19,some 20,some 21,some 22,some 23,some 24,some 25,some 26,some 27,some 28,some 29] [] [0,0,3,7,15,31,63,127,255,255,1023,255,255,6399,14591,30975,65535,131071] [pv (.slice a l.length c),pv (I6 (k:Int)),pv (.pointer (some ⟨bkS (.slice a l.length c),ofS (.slice a l.length c)+(k:Int).toNat*23,none⟩)),pv (.pointer (some ⟨bkS (.slice a l.length c),ofS (.slice a l.length c)+(k:Int).toNat*23+0,none⟩)),pv (.agg (dc ((gd l k).dot)).toArray),pv (.bool (QbJ ((gd l k).dot))),pv (.bool (!(QbJ ((gd l k).dot)))),pv (.bool (!(QbJ ((gd l k).dot)))),pg ((!(QbJ ((gd l k).dot))) == false) (.slice a l.length c),pg ((!(QbJ ((gd l k).dot))) == false) (I6 (k:Int)),pg ((!(QbJ ((gd l k).dot))) == false) (.slice (sla a 0 c 23) ((l.take k).length) (c-0)),pg ((!(QbJ ((gd l k).dot))) == false) (.slice a l.length c),pg ((!(QbJ ((gd l k).dot))) == false) (I6 (k:Int)),pg ((!(QbJ ((gd l k).dot))) == false) (.pointer (some ⟨bkS (.slice a l.length c),ofS (.slice a l.length c)+(k:Int).toNat*23,none⟩)),pg ((!(QbJ ((gd l k).dot))) == false) (.pointer (some ⟨bkS (.slice a l.length c),ofS (.slice a l.length c)+(k:Int).toNat*23+0,none⟩)),pg ((!(QbJ ((gd l k).dot))) == false) (.agg (dc ((gd l k).dot)).toArray),pg ((!(QbJ ((gd l k).dot))) == false) (.bool ((l.take k).any fun o=>decide (o.dot=(gd l k).dot))),pv (.bool ((!(QbJ ((gd l k).dot)))||((l.take k).any fun o=>decide (o.dot=(gd l k).dot))))] (fun _ _=>_) [17] (by kernel_rfl) hs ⟨?_,?_,?_,?_,?_,?_,?_,?_,?_,?_,?_,?_,?_,?_,?_,?_,?_,?_,trivial⟩ ?_
  ·exact oa [] fun D J w hs=>Qac (V:=.slice a l.length c) rfl (Zz hs)
  ·exact oa [] fun D J w hs=>Qac (V:=.int .i64 (k:Int)) rfl (Zz hs)
  ·exact oa [0,1] fun D J w hs=>Qax Qco QbB.1 (Rd.own' hr hs) rfl rfl (by omega) (by rw [QQ6];omega) (Zz hs)
  ·exact oa [2] fun D J w hs=>Qaf Qbp rfl (Zz hs)
  ·exact oa [3] fun D J w hs=>Qbb (j:=0) (vs:=dc ((gd l k).dot)) k QcL (Rd.own' hr hs) (Qba (by omega)) rfl rfl rfl (by omega) (Zz hs)
  ·exact oa [4] fun D J w hs=>Qat (vs:=[.agg (dc ((gd l k).dot)).toArray]) (V:=.bool (QbJ ((gd l k).dot))) Qm5 rfl rfl (Qi1 _ ((gd l k).dot)) hs fun _ hs=>Zz hs
  ·exact oa [5] fun D J w hs=>Qbz rfl (Zz hs)
  ·exact oa [6] fun D J w hs=>Qac (V:=.bool (!(QbJ ((gd l k).dot)))) rfl (Zz hs)
  ·exact og [7] fun D J w hG hs=>Qac (V:=.slice a l.length c) rfl (Zz hs)
  ·exact og [7] fun D J w hG hs=>Qac (V:=.int .i64 (k:Int)) rfl (Zz hs)
  ·exact oy [7,8,9] [8,9] fun D J w hG hs=>QkQ (l:=0) (h:=k) (m:=c) (n':=(l.take k).length) QtM QbB.1 (Rd.own' hr hs) rfl (.inl ⟨rfl,rfl⟩) (.inr ⟨_,_,rfl,rfl⟩) (.inl ⟨rfl,rfl⟩) (by omega) (by omega) (Nat.le_trans (show k<=l.length by omega) (Rd.roomM (Rd.own' hr hs))) (Nat.le_refl _) (by simp only [List.length_take,List.length_drop]<;>omega) (Zz hs)
  ·exact og [7] fun D J w hG hs=>Qac (V:=.slice a l.length c) rfl (Zz hs)
  ·exact og [7] fun D J w hG hs=>Qac (V:=.int .i64 (k:Int)) rfl (Zz hs)
  ·exact oy [7,11,12] [11,12] fun D J w hG hs=>Qax Qco QbB.1 (Rd.own' hr hs) rfl rfl (by omega) (by rw [QQ6];omega) (Zz hs)
  ·exact oy [7,13] [13] fun D J w hG hs=>Qaf Qbp rfl (Zz hs)
  ·exact oy [7,14] [14] fun D J w hG hs=>Qbb (j:=0) (vs:=dc ((gd l k).dot)) k QcL (Rd.own' hr hs) (Qba (by omega)) rfl rfl rfl (by omega) (Zz hs)
  ·exact oy [7,10,15] [10,15] fun D J w hG hs=>Qat (vs:=[.slice (sla a 0 c 23) ((l.take k).length) (c-0),.agg (dc ((gd l k).dot)).toArray]) (V:=.bool ((l.take k).any fun o=>decide (o.dot=(gd l k).dot))) QtR rfl rfl (Qpk _ (sla a 0 c 23) (c-0) (l.take k) ((gd l k).dot) (Rd.subM (Rd.own' hr hs) 0 k c (by omega) (by omega) (Nat.le_trans (show k<=l.length by omega) (Rd.roomM (Rd.own' hr hs))) (Nat.le_refl _) _ (by simp only [List.length_take,List.length_drop]<;>omega))) hs fun _ hs=>Zz hs
  ·exact oa [7,16] fun D J w hs=>Qcs (h':=(l.take k).any fun o=>decide (o.dot=(gd l k).dot)) rfl rfl rfl (Zz hs)
  rintro J1 w5 J2 hJ hs
  replace hJ:J2=upd (mix (sq 12 18) J1 _) 29 (.bool ((!(QbJ ((gd l k).dot)))||((l.take k).any fun o=>decide (o.dot=(gd l k).dot)))):=hJ
  subst hJ
  refine Qam (t:=(!(QbJ ((gd l k).dot)))||((l.take k).any fun o=>decide (o.dot=(gd l k).dot))) rfl (fun c6=>?_) (fun c6=>?_)
  ·
   refine Qag (Qab (Qaa (Qad (V:=.bool false) rfl (Qae (Qaw ?_)))))
   refine ⟨_,Qaq (V:=.bool false) Tryz.results70 rfl,(Zr hs ?_)⟩
   exact congrArg Value.bool (QjB (k:=k) (by omega) (by unfold Qn4;exact c6)).symm
  have c6r:=QgD c6
  replace c6:=QgK c6
  replace c6:=Qbu c6
  refine Qao (Qab (Qaa (Qac (V:=I6 (k:Int)) rfl (Qaa (QaF (a:=(k:Int)) (b:=1) (c:=(k:Int)+1) rfl rfl (QbE (by omega) (by omega)) (Qaa (Qad (V:=I6 ((k:Int)+1)) rfl (Qae ?_))))))))
  refine ⟨_,?_,_,k+1,Qal (Qap (ds:=([2,3]++sq 6 24)) (by repeat (first|exact Agr.refl _ _|refine Agr.upd ?_ rfl|refine Agr.mix ?_ rfl))) rfl,(by omega),(QcO hbad (by unfold Qn4;rw [c6,c6r];rfl)),rfl,hs.take 0⟩
  omega
 replace c2:=QQ2 c2
 refine QaJ (Qag (Qag (Qab (Qaa (Qad (V:=I6 0) rfl (Qae (Qan (QaD (fun J μ J' w'=>∃ (Jo:Env) (k2:Nat),J'=upd (mix ([2,4,5]++sq 30 27) Jo J) 4 (I6 (k2:Int))/\(k2<=l.length)/\(∀ j:Nat,j<k2->Qe4 l (gd l j)=true)/\μ=l.length-k2/\Own w no w' []) ?_ ?_))))))))
 ·exact ⟨_,_,0,Qal (Qap (ds:=([2,4,5]++sq 30 27)) (Agr.refl _ _)) rfl,(by omega),(fun j hj=>absurd hj (Nat.not_lt_zero j)),rfl,hs⟩
 rintro μ J' w7 ⟨Jo,k2,rfl,hk2,hkn,rfl,hs⟩
 refine Qag (Qag (Qab (Qaa (Qac (V:=I6 (k2:Int)) rfl (Qaa (Qac (V:=.slice a l.length c) rfl (Qaa (Qa3 (n:=l.length) Qco (Rd.own' hr hs) (by simp) rfl (Qaa (Qa2 rfl rfl (Qae (Qam (t:=decide ((k2:Int)<((l.length:Nat):Int))) rfl (fun c8=>?_) (fun c8=>?_)))))))))))))
 ·
  replace c8:=QQ1 c8
  refine Qao (Qag (Qan (Qag (Qab (Qaa (Qad (V:=I6 0) rfl (Qae (Qan (QaD (fun J μ J' w'=>∃ (Jo:Env) (k3:Nat),J'=upd (mix ([2,5]++sq 36 21) Jo J) 5 (I6 (k3:Int))/\(k3<=16)/\(∀ r:Nat,r<k3->QgZ l (gd l k2).ctx (r:Int)=min (vat (gd l k2).ctx r) 1048576)/\μ=16-k3/\Own w no w' []) ?_ ?_)))))))))
  ·exact ⟨_,_,0,Qal (Qap (ds:=([2,5]++sq 36 21)) (Agr.refl _ _)) rfl,(by omega),(fun j hj=>absurd hj (Nat.not_lt_zero j)),rfl,hs⟩
  rintro μ J' w9 ⟨Jo,k3,rfl,hk3,hr3,rfl,hs⟩
  refine Qag (Qag (Qab (Qaa (Qac (V:=I6 (k3:Int)) rfl (Qaa (Qa2 rfl rfl (Qae (Qam (t:=decide ((k3:Int)<16)) rfl (fun c10=>?_) (fun c10=>?_)))))))))
  ·
   replace c10:=QQ1 c10
   refine Qao (Qag (Qan (Qag ?_)))
   have hok2:=hl _ (QbG (l:=l) (i:=k2) (by omega))
   refine QaH HM [some 40,some 41,some 42,some 43,some 44,some 45,some 46,some 47,some 48,some 49,some 50,some 51,some 52,some 53,some 54,some 55,some 56] [] [0,0,0,6,14,30,0,127,0,0,0,768,2816,7936,16128,32512,65535] [pv (.slice a l.length c),pv (.slice a l.length c),pv (I6 (k2:Int)),pv (.pointer (some ⟨bkS (.slice a l.length c),ofS (.slice a l.length c)+(k2:Int).toNat*23,none⟩)),pv (.pointer (some ⟨bkS (.slice a l.length c),ofS (.slice a l.length c)+(k2:Int).toNat*23+7,none⟩)),pv (.agg (vc ((gd l k2).ctx)).toArray),pv (I6 (k3:Int)),pv (.int .u32 (QgZ l ((gd l k2).ctx) (k3:Int))),pv (.slice a l.length c),pv (I6 (k2:Int)),pv (I6 (k3:Int)),pv (.pointer (some ⟨bkS (.slice a l.length c),ofS (.slice a l.length c)+(k2:Int).toNat*23,none⟩)),pv (.pointer (some ⟨bkS (.slice a l.length c),ofS (.slice a l.length c)+(k2:Int).toNat*23+7,none⟩)),pv (.pointer (some ⟨bkS (.slice a l.length c),ofS (.slice a l.length c)+(k2:Int).toNat*23+7+(k3:Int).toNat,none⟩)),pv (.int .u32 (vat ((gd l k2).ctx) k3)),pv (.int .u32 (min (vat ((gd l k2).ctx) k3) 1048576)),pv (.bool (!decide (QgZ l ((gd l k2).ctx) (k3:Int)=min (vat ((gd l k2).ctx) k3) 1048576)))] (fun _ _=>_) [16] (by kernel_rfl) hs ⟨?_,?_,?_,?_,?_,?_,?_,?_,?_,?_,?_,?_,?_,?_,?_,?_,?_,trivial⟩ ?_
   ·exact oa [] fun D J w hs=>Qac (V:=.slice a l.length c) rfl (Zz hs)
   ·exact oa [] fun D J w hs=>Qac (V:=.slice a l.length c) rfl (Zz hs)
   ·exact oa [] fun D J w hs=>Qac (V:=.int .i64 (k2:Int)) rfl (Zz hs)
   ·exact oa [1,2] fun D J w hs=>Qax Qco QbB.1 (Rd.own' hr hs) rfl rfl (by omega) (by rw [QQ6];omega) (Zz hs)
   ·exact oa [3] fun D J w hs=>Qaf QcM rfl (Zz hs)
   ·exact oa [4] fun D J w hs=>Qbb (j:=7) (vs:=vc ((gd l k2).ctx)) k2 Qbk (Rd.own' hr hs) (Qba (by omega)) rfl rfl rfl (by omega) (Zz hs)
   ·exact oa [] fun D J w hs=>Qac (V:=.int .i64 (k3:Int)) rfl (Zz hs)
   ·exact oa [0,5,6] fun D J w hs=>Qat (vs:=[.slice a l.length c,.agg (vc ((gd l k2).ctx)).toArray,.int .i64 (k3:Int)]) (V:=.int .u32 (QgZ l ((gd l k2).ctx) (k3:Int))) QuA rfl rfl (QnT _ a c l ((gd l k2).ctx) (k3:Int) (by assumption) (by assumption) (Rd.own' hr hs)) hs fun _ hs=>Zz hs
   ·exact oa [] fun D J w hs=>Qac (V:=.slice a l.length c) rfl (Zz hs)
   ·exact oa [] fun D J w hs=>Qac (V:=.int .i64 (k2:Int)) rfl (Zz hs)
   ·exact oa [] fun D J w hs=>Qac (V:=.int .i64 (k3:Int)) rfl (Zz hs)
   ·exact oa [8,9] fun D J w hs=>Qax Qco QbB.1 (Rd.own' hr hs) rfl rfl (by omega) (by rw [QQ6];omega) (Zz hs)
   ·exact oa [11] fun D J w hs=>Qaf QcM rfl (Zz hs)
   ·exact oa [10,12] fun D J w hs=>QbX QdT QaX.1 rfl rfl (by omega) (by omega) (Zz hs)
   ·exact oa [13] fun D J w hs=>QaW (j:=7+k3) (V:=.int .u32 (vat ((gd l k2).ctx) k3)) k2 QaX (Rd.own' hr hs) (Qba (by omega)) (QuH (by omega)) rfl (by omega) (Zz hs)
   ·exact oa [14] fun D J w hs=>QvO rfl rfl (Zz hs)
   ·exact oa [7,15] fun D J w hs=>Qcv rfl rfl (Zz hs)
   rintro J1 w12 J2 hJ hs
   replace hJ:J2=upd (mix (sq 40 17) J1 _) 56 (.bool (!decide (QgZ l ((gd l k2).ctx) (k3:Int)=min (vat ((gd l k2).ctx) k3) 1048576))):=hJ
   subst hJ
   refine Qam (t:=!decide (QgZ l ((gd l k2).ctx) (k3:Int)=min (vat ((gd l k2).ctx) k3) 1048576)) rfl (fun c13=>?_) (fun c13=>?_)
   ·
    replace c13:=Qby c13
    replace c13:=QQ2 c13
    refine Qag (Qab (Qaa (Qad (V:=.bool false) rfl (Qae (Qaw ?_)))))
    refine ⟨_,Qaq (V:=.bool false) Tryz.results70 rfl,(Zr hs ?_)⟩
    exact congrArg Value.bool (QkP (k:=k2) (r:=k3) (by omega) (by omega) c13).symm
   replace c13:=Qbu c13
   replace c13:=QQ1 c13
   refine Qao (Qab (Qaa (Qac (V:=I6 (k3:Int)) rfl (Qaa (QaF (a:=(k3:Int)) (b:=1) (c:=(k3:Int)+1) rfl rfl (QbE (by omega) (by omega)) (Qaa (Qad (V:=I6 ((k3:Int)+1)) rfl (Qae ?_))))))))
   refine ⟨_,?_,_,k3+1,Qal (Qap (ds:=([2,5]++sq 36 21)) (by repeat (first|exact Agr.refl _ _|refine Agr.upd ?_ rfl|refine Agr.mix ?_ rfl))) rfl,(by omega),(fun r hr=>if e:r=k3 then by subst e;exact c13 else hr3 r (by omega)),rfl,hs.take 0⟩
   omega
  replace c10:=QQ2 c10
  refine QaJ (Qab (Qaa (Qac (V:=I6 (k2:Int)) rfl (Qaa (QaF (a:=(k2:Int)) (b:=1) (c:=(k2:Int)+1) rfl rfl (QbE (by omega) (by omega)) (Qaa (Qad (V:=I6 ((k2:Int)+1)) rfl (Qae ?_))))))))
  refine ⟨_,?_,_,k2+1,Qal (Qap (ds:=([2,4,5]++sq 30 27)) (by repeat (first|exact Agr.refl _ _|refine Agr.upd ?_ rfl|refine Agr.mix ?_ rfl))) rfl,(by omega),(Qka (p:=fun j=>Qe4 l (gd l j)) hkn (Qk0 fun r hr=>hr3 r (by omega))),rfl,hs.take 0⟩
  omega
 replace c8:=QQ2 c8
 refine QaJ (Qag (Qab (Qaa (Qad (V:=.bool true) rfl (Qae (Qaw ?_))))))
 refine ⟨_,Qaq (V:=.bool true) Tryz.results70 rfl,(Zr hs ?_)⟩
 exact congrArg Value.bool (Qjt (fun j hj=>hbad j (by omega)) fun j hj=>hkn j (by omega)).symm
theorem QlL (w:World) (v:Vec) (a:Option Addr) (c:Nat) (l:List Opn) (hl:∀ o∈l,Qcc o) (hlen:l.length<=1000) (hr:Rd w (.slice a l.length c) 23 (l.map oc)):Calls Tryz.prog 35 #[.slice a l.length c,.agg (vc v).toArray] w (fun e w'=>∃ x:Option Addr × Nat,e = .returned (.slice x.1 (QaC l v).length x.2)/\Own w no w' [row (.slice x.1 (QaC l v).length x.2) ((QaC l v).map oc) 98 23]/\True):=by
 refine Qai (n:=28) Tryz.func35 rfl Tryz.ntmps35 rfl ?_
 have hs:=Own.start w
 have hn:=hr.sml
 refine Qag (Qab (Qaa (Qa4 (V:=.agg (vc v).toArray) (cs:=vc v) rfl rfl hs fun b1 w2 hs=>(Qaa (Qad (V:=.slice none 0 0) rfl (Qae (Qag (Qab (Qaa (Qad (V:=.slice none 0 0) rfl (Qae (Qag (Qag (Qab (Qaa (Qad (V:=I6 0) rfl (Qae (Qan ?_))))))))))))))))))
 replace hs:=hs.more (row (.slice none 0 0) (List.map oc []) 98 23) (Qbd _ _ _ _)
 refine QaD (fun J μ J' w'=>∃ (Jo:Env) (k:Nat) (an:Option Addr) (cn:Nat) (out:List Opn),J'=upd (upd (mix (sq 5 22) Jo J) 6 (I6 (k:Int))) 5 (.slice an out.length cn)/\(k<=l.length)/\(out.length<=k)/\(out=QaC (l.take k) v)/\μ=l.length-k/\Own w no w' [blk b1 (vc v) 24,row (.slice an out.length cn) (out.map oc) 98 23]) ?_ ?_
 ·exact ⟨_,_,0,none,0,[],Qal (Qal (Qap (ds:=(sq 5 22)) (Agr.refl _ _)) rfl) rfl,(by omega),(Nat.le_refl _),rfl,rfl,hs⟩
 rintro μ J' w3 ⟨Jo,k,an,cn,out,rfl,hk,hol,hout,rfl,hs⟩
 refine Qag (Qag (Qab (Qaa (Qac (V:=I6 (k:Int)) rfl (Qaa (Qac (V:=.slice a l.length c) rfl (Qaa (Qa3 (n:=l.length) Qco (Rd.own' hr hs) (by simp) rfl (Qaa (Qa2 rfl rfl (Qae (Qam (t:=decide ((k:Int)<((l.length:Nat):Int))) rfl (fun c4=>?_) (fun c4=>?_)))))))))))))
 ·
  replace c4:=QQ1 c4
  refine Qao (Qag (Qan (Qag ?_)))
  have hok:=hl _ (QbG (l:=l) (i:=k) (by omega))
  have hdk:=hok.1
  refine QaH HM [some 13,some 14,some 15,some 16,some 17,some 18,some 19] [] [0,0,0,6,14,30,63] [pv (.agg (vc v).toArray),pv (.slice a l.length c),pv (I6 (k:Int)),pv (.pointer (some ⟨bkS (.slice a l.length c),ofS (.slice a l.length c)+(k:Int).toNat*23,none⟩)),pv (.pointer (some ⟨bkS (.slice a l.length c),ofS (.slice a l.length c)+(k:Int).toNat*23+0,none⟩)),pv (.agg (dc ((gd l k).dot)).toArray),pv (.bool (Qbv v ((gd l k).dot)))] (fun _ _=>_) [6] (by kernel_rfl) hs ⟨?_,?_,?_,?_,?_,?_,?_,trivial⟩ ?_
  ·exact oa [] fun D J w hs=>QaL (cs:=vc v) Qbk hs 0 rfl rfl rfl (Zz hs)
  ·exact oa [] fun D J w hs=>Qac (V:=.slice a l.length c) rfl (Zz hs)
  ·exact oa [] fun D J w hs=>Qac (V:=.int .i64 (k:Int)) rfl (Zz hs)
  ·exact oa [1,2] fun D J w hs=>Qax Qco QbB.1 (Rd.own' hr hs) rfl rfl (by omega) (by rw [QQ6];omega) (Zz hs)
  ·exact oa [3] fun D J w hs=>Qaf Qbp rfl (Zz hs)
  ·exact oa [4] fun D J w hs=>Qbb (j:=0) (vs:=dc ((gd l k).dot)) k QcL (Rd.own' hr hs) (Qba (by omega)) rfl rfl rfl (by omega) (Zz hs)
  ·exact oa [0,5] fun D J w hs=>Qat (vs:=[.agg (vc v).toArray,.agg (dc ((gd l k).dot)).toArray]) (V:=.bool (Qbv v ((gd l k).dot))) Qnj rfl rfl (Qf6 _ v ((gd l k).dot) (by first|assumption|exact QcP (by omega) (by omega) (by omega) (by omega))) hs fun _ hs=>Zz hs
  rintro J1 w6 J2 hJ hs
  replace hJ:J2=upd (mix (sq 13 7) J1 _) 19 (.bool (Qbv v ((gd l k).dot))):=hJ
  subst hJ
  refine Qam (t:=Qbv v ((gd l k).dot)) rfl (fun c7=>?_) (fun c7=>?_)
  ·
   refine Qab (Qaa (Qac (V:=.slice an out.length cn) rfl (Qaa (Qac (V:=.slice a l.length c) rfl (Qaa (Qac (V:=I6 (k:Int)) rfl (Qaa (Qax Qco QbB.1 (Rd.own' hr hs) rfl rfl (by omega) (by rw [QQ6];omega) (Qaa (Qbb (j:=0) (vs:=oc (gd l k)) k QbB (Rd.own' hr hs) (Qba (by omega)) rfl rfl rfl (by omega) (Qaa (QhQ (vals:=[.agg (oc (gd l k)).toArray]) (ls:=List.map oc ([gd l k]:List Opn)) Qi3 rfl rfl rfl (Qbi (enc:=oc) (fun _=>rfl) _) (QaV Qc7 _) (QQ8 rfl) hs fun b8 w9 hs=>(Qaa (Qdi (ls':=(out++[gd l k]).map oc) (n:=(out++[gd l k]).length) Qi3 hs 1 rfl rfl rfl (hs.rd 2 rfl) (QaV Qc7 _) (by simp only [QQ6,QQ7,List.length_cons,List.length_nil];omega) (by simp) (by simp) fun a10 c10 w11 hs=>(Qaa (Qad (V:=.slice a10 ((out++[gd l k]).length) c10) rfl (Qae (Qab (Qaa (Qac (V:=I6 (k:Int)) rfl (Qaa (QaF (a:=(k:Int)) (b:=1) (c:=(k:Int)+1) rfl rfl (QbE (by omega) (by omega)) (Qaa (Qad (V:=I6 ((k:Int)+1)) rfl (Qae ?_)))))))))))))))))))))))))
   refine ⟨_,?_,_,k+1,a10,c10,out++[gd l k],Qal (Qal (Qap (ds:=(sq 5 22)) (by repeat (first|exact Agr.refl _ _|refine Agr.upd ?_ rfl|refine Agr.mix ?_ rfl))) rfl) rfl,(by omega),(by first|omega|(rw [QQ7,List.length_singleton];omega)),(Qe6 hout (by omega) c7),rfl,hs.take 2⟩
   omega
  refine Qao (Qab (Qaa (Qac (V:=I6 (k:Int)) rfl (Qaa (QaF (a:=(k:Int)) (b:=1) (c:=(k:Int)+1) rfl rfl (QbE (by omega) (by omega)) (Qaa (Qad (V:=I6 ((k:Int)+1)) rfl (Qae ?_))))))))
  refine ⟨_,?_,_,k+1,an,cn,out,Qal (Qal (Qap (ds:=(sq 5 22)) (by repeat (first|exact Agr.refl _ _|refine Agr.upd ?_ rfl|refine Agr.mix ?_ rfl))) rfl) rfl,(by omega),(by first|omega|(rw [QQ7,List.length_singleton];omega)),(QhO hout (by omega) c7),rfl,hs.take 2⟩
  omega
 replace c4:=QQ2 c4
 refine QaJ (Qag (Qab (Qaa (Qac (V:=.slice an out.length cn) rfl (Qaa (Qad (V:=.slice an out.length cn) rfl (Qae (Qaw ?_))))))))
 refine ⟨_,Qaq (V:=.slice an out.length cn) Tryz.results35 rfl,?_⟩
 have hX:out=QaC l v:=by rw [hout,Qcz (by omega)]
 rw [hX] at hs ⊢
 exact ⟨(an,cn),rfl,hs.only 1 rfl,trivial⟩
end Tt
end Go.Proofs
namespace Go.Proofs
open Go Go.Vx Go.RowKit
namespace Tt
theorem Qt5 (w:World) (x y:Cen):Calls Tryz.prog 128 #[.agg (cec x).toArray,.agg (cec y).toArray] w (fun e w'=>e = .returned (.int .i64 (Quc x y))/\Own w no w' []):=by
 refine Qai (n:=26) Tryz.func128 rfl Tryz.ntmps128 rfl ?_
 have hs:=Own.start w
 refine Qag (Qab (Qaa (Qa4 (V:=.agg (cec x).toArray) (cs:=cec x) rfl rfl hs fun b1 w2 hs=>(Qaa (Qa4 (V:=.agg (cec y).toArray) (cs:=cec y) rfl rfl hs fun b3 w4 hs=>(Qaa (Qad (V:=I6 0) rfl (Qae (Qag ?_)))))))))
 replace hs:=hs.more emp trivial
 refine QaH HM [some 5,some 6,some 7,some 8,some 9,some 10,some 11,some 12,some 13,some 14,some 15,some 16,some 17,some 18,some 19,some 20,some 21,some 22,some 23,some 24,some 25,some 4] [[],[],[],[],[],[],[],[],[],[],[],[],[],[],[],[],[],[],[],[24]] [0,1,0,4,15,0,32,96,0,256,768,2047,0,4096,12288,0,32768,98304,262143,524287,1048575,2097151] [pv (Pq b1 (0+6)),pv (.int .u64 x.count),pv (Pq b3 (0+6)),pv (.int .u64 y.count),pv (I6 (Qa0 x.count y.count)),pv (Pq b1 (0+4)),pv (Pq b1 (0+4+0)),pv (.int .u8 x.dot.rep),pv (Pq b3 (0+4)),pv (Pq b3 (0+4+0)),pv (.int .u8 y.dot.rep),pv (I6 (Qa0 x.dot.rep y.dot.rep)),pv (Pq b1 (0+4)),pv (Pq b1 (0+4+1)),pv (.int .u32 x.dot.seq),pv (Pq b3 (0+4)),pv (Pq b3 (0+4+1)),pv (.int .u32 y.dot.seq),pv (I6 (Qa0 x.dot.seq y.dot.seq)),(true,fun J=>.slice (some ⟨(bOf (J 24)),0,none⟩) 3 3),pv (I6 (orI [Qa0 x.count y.count,Qa0 x.dot.rep y.dot.rep,Qa0 x.dot.seq y.dot.seq])),pv (I6 (orI [Qa0 x.count y.count,Qa0 x.dot.rep y.dot.rep,Qa0 x.dot.seq y.dot.seq]))] (fun D J=>[blk b1 (cec x) 106,blk b3 (cec y) 106,cond (D 19) (row (.slice (some ⟨(bOf (J 24)),0,none⟩) 3 3) ([Qa0 x.count y.count,Qa0 x.dot.rep y.dot.rep,Qa0 x.dot.seq y.dot.seq].map (ic .i64)) 3 1) (emp)]) [21] (by kernel_rfl) hs ⟨?_,?_,?_,?_,?_,?_,?_,?_,?_,?_,?_,?_,?_,?_,?_,?_,?_,?_,?_,?_,?_,?_,trivial⟩ ?_
 ·exact oa [] fun D J w hs=>Qaf QfN rfl (Zz hs)
 ·exact oa [0] fun D J w hs=>QaQ (V:=.int .u64 x.count) Qkf hs 0 rfl rfl rfl (Zz hs)
 ·exact oa [] fun D J w hs=>Qaf QfN rfl (Zz hs)
 ·exact oa [2] fun D J w hs=>QaQ (V:=.int .u64 y.count) Qkf hs 1 rfl rfl rfl (Zz hs)
 ·exact oa [1,3] fun D J w hs=>Qat (vs:=[.int .u64 x.count,.int .u64 y.count]) (V:=.int .i64 (Qa0 x.count y.count)) Qut rfl rfl (QhG _ x.count y.count) hs fun _ hs=>Zz hs
 ·exact oa [] fun D J w hs=>Qaf QbN rfl (Zz hs)
 ·exact oa [5] fun D J w hs=>Qaf QbZ rfl (Zz hs)
 ·exact oa [6] fun D J w hs=>QaQ (V:=.int .u8 x.dot.rep) Qdw hs 0 rfl rfl rfl (Zz hs)
 ·exact oa [] fun D J w hs=>Qaf QbN rfl (Zz hs)
 ·exact oa [8] fun D J w hs=>Qaf QbZ rfl (Zz hs)
 ·exact oa [9] fun D J w hs=>QaQ (V:=.int .u8 y.dot.rep) Qdw hs 1 rfl rfl rfl (Zz hs)
 ·exact oa [7,10] fun D J w hs=>Qat (vs:=[.int .u8 x.dot.rep,.int .u8 y.dot.rep]) (V:=.int .i64 (Qa0 x.dot.rep y.dot.rep)) Qro rfl rfl (Qd3 _ x.dot.rep y.dot.rep) hs fun _ hs=>Zz hs
 ·exact oa [] fun D J w hs=>Qaf QbN rfl (Zz hs)
 ·exact oa [12] fun D J w hs=>Qaf Qb0 rfl (Zz hs)
 ·exact oa [13] fun D J w hs=>QaQ (V:=.int .u32 x.dot.seq) QaX hs 0 rfl rfl rfl (Zz hs)
 ·exact oa [] fun D J w hs=>Qaf QbN rfl (Zz hs)
 ·exact oa [15] fun D J w hs=>Qaf Qb0 rfl (Zz hs)
 ·exact oa [16] fun D J w hs=>QaQ (V:=.int .u32 y.dot.seq) QaX hs 1 rfl rfl rfl (Zz hs)
 ·exact oa [14,17] fun D J w hs=>Qat (vs:=[.int .u32 x.dot.seq,.int .u32 y.dot.seq]) (V:=.int .i64 (Qa0 x.dot.seq y.dot.seq)) Qrw rfl rfl (QdN _ x.dot.seq y.dot.seq) hs fun _ hs=>Zz hs
 ·exact oa [4,11,18] fun D J w hs=>QhQ (vals:=[.int .i64 (Qa0 x.count y.count),.int .i64 (Qa0 x.dot.rep y.dot.rep),.int .i64 (Qa0 x.dot.seq y.dot.seq)]) (ls:=List.map (ic .i64) ([Qa0 x.count y.count,Qa0 x.dot.rep y.dot.rep,Qa0 x.dot.seq y.dot.seq]:List Int)) QnP rfl rfl rfl (Qbi (enc:=(ic .i64)) (fun _=>rfl) _) (QaV (Qfq .i64) _) (QQ8 rfl) hs fun _ _ hs=>⟨rfl,hs.put 2 (QQ8 rfl)⟩
 ·exact oa [19] fun D J w hs=>Qat (vs:=[.slice (some ⟨(bOf (J 24)),0,none⟩) 3 3]) (V:=.int .i64 (orI [Qa0 x.count y.count,Qa0 x.dot.rep y.dot.rep,Qa0 x.dot.seq y.dot.seq])) Qsr rfl rfl (QqS _ (some ⟨(bOf (J 24)),0,none⟩) 3 [Qa0 x.count y.count,Qa0 x.dot.rep y.dot.rep,Qa0 x.dot.seq y.dot.seq] (hs.rd 2 rfl)) hs fun _ hs=>Zz hs
 ·exact oa [20] fun D J w hs=>Qad (V:=.int .i64 (orI [Qa0 x.count y.count,Qa0 x.dot.rep y.dot.rep,Qa0 x.dot.seq y.dot.seq])) rfl (Zz hs)
 rintro J1 w10 J2 hJ hs
 replace hJ:J2=upd (mix (sq 5 21++[4]) J1 _) 4 (I6 (orI [Qa0 x.count y.count,Qa0 x.dot.rep y.dot.rep,Qa0 x.dot.seq y.dot.seq])):=hJ
 replace hs:Own w no w10 [blk b1 (cec x) 106,blk b3 (cec y) 106,row (.slice (some ⟨(bOf (J1 24)),0,none⟩) 3 3) ([Qa0 x.count y.count,Qa0 x.dot.rep y.dot.rep,Qa0 x.dot.seq y.dot.seq].map (ic .i64)) 3 1]:=hs
 generalize (bOf (J1 24))=b11 at hs
 subst hJ
 refine Qaw ?_
 refine ⟨_,Qaq (V:=I6 (orI [Qa0 x.count y.count,Qa0 x.dot.rep y.dot.rep,Qa0 x.dot.seq y.dot.seq])) Tryz.results128 rfl,(Zr hs ?_)⟩
 rfl
theorem Qok (w:World) (x y:Cen):Calls Tryz.prog 76 #[.agg (cec x).toArray,.agg (cec y).toArray] w (fun e w'=>e = .returned (.int .i64 (Qa0 x.item y.item))/\Own w no w' []):=by
 refine Qai (n:=10) Tryz.func76 rfl Tryz.ntmps76 rfl ?_
 have hs:=Own.start w
 refine Qag (Qab (Qaa (Qa4 (V:=.agg (cec x).toArray) (cs:=cec x) rfl rfl hs fun b1 w2 hs=>(Qaa (Qa4 (V:=.agg (cec y).toArray) (cs:=cec y) rfl rfl hs fun b3 w4 hs=>(Qaa (Qad (V:=I6 0) rfl (Qae (Qag (Qab (Qaa (Qaf Qdg rfl (Qaa (QaQ (V:=I7 x.item) Qar hs 0 rfl rfl rfl (Qaa (Qaf Qdg rfl (Qaa (QaQ (V:=I7 y.item) Qar hs 1 rfl rfl rfl (Qaa (Qat (vs:=[I7 x.item,I7 y.item]) (V:=I6 (Qa0 x.item y.item)) QoW rfl rfl ?hc hs fun w5 hs=>?_))))))))))))))))))))
 case hc=>exact (QcY _ x.item y.item)
 refine Qaa (Qad (V:=I6 (Qa0 x.item y.item)) rfl (Qae (Qaw ?_)))
 refine ⟨_,Qaq (V:=I6 (Qa0 x.item y.item)) Tryz.results76 rfl,(Zr hs ?_)⟩
 rfl
theorem Qsb (w:World) (item:Int) (a:Option Addr) (c:Nat) (l:List Cen) (hl:∀ e∈l,QiU e/\1<=e.count) (hr:Rd w (.slice a l.length c) 7 (l.map cec)):Calls Tryz.prog 78 #[.int .u16 item,.slice a l.length c] w (fun e w'=>e = .returned (.agg (lc ⟨item,QeT l⟩).toArray)/\Own w no w' []):=by
 refine Qai (n:=38) Tryz.func78 rfl Tryz.ntmps78 rfl ?_
 have hs:=Own.start w
 have hn1:=hr.sml
 refine Qag (Qab (Qaa (QaK (cs:=lc (⟨0,0⟩:Line)) Qp7 rfl hs fun b1 w2 hs=>(Qae (Qag (Qab (Qaa (QaK (cs:=cec (⟨0,0,0,0,(⟨0,0⟩:Dot),0⟩:Cen)) Qfz rfl hs fun b3 w4 hs=>(Qae (Qag (Qab (Qaa (Qad (V:=.int .u32 0) rfl (Qae (Qag (Qag (Qab (Qaa (Qac (V:=.slice a l.length c) rfl (Qaa (Qa3 (n:=l.length) QbC (Rd.own' hr hs) (by simp) rfl (Qaa (Qac (V:=I6 0) rfl (Qae (Qan (QaD (fun J μ J' w'=>∃ (Jo:Env) (k:Nat) (sm:Int) (u:Cen),J'=upd (upd (mix ([6,8]++sq 11 20) Jo J) 11 (I6 (k:Int))) 6 (.int .u32 sm)/\(k<=l.length)/\(sm=Qli (l.take k))/\(u=(l.take k).foldl QeF cz)/\μ=l.length-k/\Own w no w' [blk b1 (lc (⟨0,0⟩:Line)) 127,blk b3 (cec u) 106]) ?_ ?_))))))))))))))))))))))))))
 ·exact ⟨_,_,0,0,cz,Qal (Qal (Qap (ds:=([6,8]++sq 11 20)) (Agr.refl _ _)) rfl) rfl,(by omega),rfl,rfl,rfl,hs⟩
 rintro μ J' w5 ⟨Jo,k,sm,u,rfl,hk,hsm,hset,rfl,hs⟩
 refine Qag (Qab (Qaa (Qa2 rfl rfl (Qae (Qag (Qam (t:=decide ((k:Int)<((l.length:Nat):Int))) rfl (fun c6=>?_) (fun c6=>?_)))))))
 ·
  replace c6:=QQ1 c6
  refine Qao (Qag (Qan (Qag (Qab (Qaa (Qax QbC QaB.1 (Rd.own' hr hs) rfl rfl (by omega) (by rw [QQ6];omega) (Qaa (Qbb (j:=0) (vs:=cec (gd l k)) k QaB (Rd.own' hr hs) (Qba (by omega)) rfl rfl rfl (by omega) (Qaa (QaK (cs:=cec (⟨0,0,0,0,(⟨0,0⟩:Dot),0⟩:Cen)) Qfz rfl hs fun b7 w8 hs=>(Qaa (Qcx (V:=.agg (cec (gd l k)).toArray) (vs:=cec (gd l k)) (cs':=cec (gd l k)) QaB.1 hs 2 rfl rfl rfl rfl rfl (QQ8 rfl) (Qbj _) (Qaz rfl) fun w9 hs=>?_))))))))))))
  replace hs:Own w no w9 [blk b1 (lc (⟨0,0⟩:Line)) 127,blk b3 (cec u) 106,blk b7 (cec (gd l k)) 106]:=hs
  refine Qae (Qan (Qag (Qab (Qaa (Qaf Qef rfl (Qaa (QaQ (V:=.int .u8 ((gd l k).kind)) Qdw hs 2 rfl rfl rfl (Qaa (QaZ rfl rfl (Qaa (Qad (V:=.bool (decide ((gd l k).kind=1))) rfl (Qae (Qam (t:=decide ((gd l k).kind=1)) rfl (fun c10=>?_) (fun c10=>?_))))))))))))))
  ·
   replace c10:=QQ1 c10
   have ⟨hq1,hq2⟩:=(hl _ (QbG (l:=l) (i:=k) (by omega))).1.2.2.1
   refine Qab (Qaa (Qac (V:=.int .u32 sm) rfl (Qaa (Qaf Qeg rfl (Qaa (QaQ (V:=I7 ((gd l k).qty)) Qar hs 2 rfl rfl rfl (Qaa (Qcl Qt1 QqR rfl (QgN (by omega) (by omega)) (Qaa (QaF (a:=sm) (b:=(gd l k).qty) (c:=(sm+((gd l k).qty))%4294967296) rfl rfl (Qqu _) (Qaa (Qad (V:=.int .u32 ((sm+((gd l k).qty))%4294967296)) rfl (Qae (Qab (Qaa (QaF (a:=(k:Int)) (b:=1) (c:=((k+1:Nat):Int)) rfl rfl (Qak (by omega) (by omega)) (Qaa (Qac (V:=I6 ((k+1:Nat):Int)) rfl (Qae ?_)))))))))))))))))))
   refine ⟨_,?_,_,k+1,(sm+((gd l k).qty))%4294967296,u,Qal (Qal (Qap (ds:=([6,8]++sq 11 20)) (by repeat (first|exact Agr.refl _ _|refine Agr.upd ?_ rfl|refine Agr.mix ?_ rfl))) rfl) rfl,(by omega),(QoQ hsm (by omega) c10),(by rw [← Qgu hset (by omega),Qmc c10]),rfl,hs.take 2⟩
   omega
  replace c10:=QQ2 c10
  refine Qag (Qab (Qaa (QaL (cs:=cec (gd l k)) QaB hs 2 rfl rfl rfl (Qaa (QaL (cs:=cec u) QaB hs 1 rfl rfl rfl (Qaa (Qat (vs:=[.agg (cec (gd l k)).toArray,.agg (cec u).toArray]) (V:=I6 (Quc (gd l k) u)) QuN rfl rfl ?hc hs fun w11 hs=>?_)))))))
  case hc=>exact (Qt5 _ (gd l k) u)
  refine Qaa (QaU (V:=.bool (decide (0<Quc (gd l k) u))) (V':=.bool (Qen u (gd l k))) (Qb2 rfl rfl ⟨rfl,rfl⟩) (congrArg Value.bool (QtY _ _)) (Qaa (Qad (V:=.bool (Qen u (gd l k))) rfl (Qae (Qam (t:=Qen u (gd l k)) rfl (fun c12=>?_) (fun c12=>?_))))))
  ·
   refine Qab (Qaa (QaL (cs:=cec (gd l k)) QaB hs 2 rfl rfl rfl (Qaa (Qcx (V:=.agg (cec (gd l k)).toArray) (vs:=cec (gd l k)) (cs':=cec (gd l k)) QaB.1 hs 1 rfl rfl rfl rfl rfl (QQ8 rfl) (Qbj _) (Qaz rfl) fun w13 hs=>(Qae (Qab (Qaa (QaF (a:=(k:Int)) (b:=1) (c:=((k+1:Nat):Int)) rfl rfl (Qak (by omega) (by omega)) (Qaa (Qac (V:=I6 ((k+1:Nat):Int)) rfl (Qae ?_)))))))))))
   refine ⟨_,?_,_,k+1,sm,gd l k,Qal (Qal (Qap (ds:=([6,8]++sq 11 20)) (by repeat (first|exact Agr.refl _ _|refine Agr.upd ?_ rfl|refine Agr.mix ?_ rfl))) rfl) rfl,(by omega),(QmR hsm (by omega) c10),(by rw [← Qgu hset (by omega),QpX c10 c12]),rfl,hs.take 2⟩
   omega
  refine Qao (Qab (Qaa (QaF (a:=(k:Int)) (b:=1) (c:=((k+1:Nat):Int)) rfl rfl (Qak (by omega) (by omega)) (Qaa (Qac (V:=I6 ((k+1:Nat):Int)) rfl (Qae ?_))))))
  refine ⟨_,?_,_,k+1,sm,u,Qal (Qal (Qap (ds:=([6,8]++sq 11 20)) (by repeat (first|exact Agr.refl _ _|refine Agr.upd ?_ rfl|refine Agr.mix ?_ rfl))) rfl) rfl,(by omega),(QmR hsm (by omega) c10),(by rw [← Qgu hset (by omega),Qq7 c10 c12]),rfl,hs.take 2⟩
  omega
 replace c6:=QQ2 c6
 refine QaJ (Qag ?_)
 have ⟨hq1,hq2⟩:0<=u.qty/\u.qty<65536:=by rw [hset];exact QoG fun e he=>(hl e (List.mem_of_mem_take he)).1
 refine Qab (Qaa (Qac (V:=I7 item) rfl (Qaa (Qac (V:=.int .u32 sm) rfl (Qaa (Qaf Qeg rfl (Qaa (QaQ (V:=I7 u.qty) Qar hs 1 rfl rfl rfl (Qaa (Qcl Qt1 QqR rfl (QgN (by omega) (by omega)) (Qaa (QaF (a:=sm) (b:=u.qty) (c:=(sm+u.qty)%4294967296) rfl rfl (Qqu _) (Qaa (QbD (vs:=[(0,I7 item),(1,.int .u32 ((sm+u.qty)%4294967296))]) (cs:=lc (⟨item,(sm+u.qty)%4294967296⟩:Line)) QsT (rfl) rfl (Qaa (Qcx (V:=.agg (lc (⟨item,(sm+u.qty)%4294967296⟩:Line)).toArray) (vs:=lc (⟨item,(sm+u.qty)%4294967296⟩:Line)) (cs':=lc (⟨item,(sm+u.qty)%4294967296⟩:Line)) Qct.1 hs 0 rfl rfl rfl rfl rfl (QQ8 rfl) (Qj6 _) (Qaz rfl) fun w14 hs=>(Qae (Qaw ?_))))))))))))))))))
 refine ⟨_,QdH (cs:=lc (⟨item,(sm+u.qty)%4294967296⟩:Line)) Tryz.results78 Qct hs 0 rfl rfl rfl,(Zr hs ?_)⟩
 have hT:=Qcz (l:=l) (k:=k) (by omega)
 rw [hT] at hsm hset
 subst hsm hset
 rw [QoX fun e he=>(hl e he).2]
end Tt
end Go.Proofs
namespace Go.Proofs
open Go Go.Vx Go.RowKit
namespace Tt
theorem Qqt (w:World) (S:Nat->Prop) (a:Option Addr) (N c:Nat) (l:List Cen) (hz:l.length=N) (hN:N<=2305843009213693951) (lo hi:Nat) (hlo:lo<=hi) (hhi:hi<=N) (g:Nat) (hg:En Tryz.prog g) (cf:Cen->Cen->Int) (hc:CmpO cf) (hcmp:∀ (w:World) (x y:Cen),Calls Tryz.prog g #[.agg (cec x).toArray,.agg (cec y).toArray] w (fun e w'=>e = .returned (.int .i64 (cf x y))/\Own w no w' [])) (hR:(row (.slice a N c) (l.map cec) 106 7).holds w S) (hlt:∀ b,S b->b<w.heap.size):Calls Tryz.prog 136 #[.slice a N c,.int .i64 (lo:Int),.int .i64 (hi:Int),.func (.func g) #[] #[]] w (fun e w'=>∃ x:List Cen,e = .returned (.tuple #[])/\Own w S w' [row (.slice a N c) (x.map cec) 106 7]/\(x.length=N/\Merged cf l x lo hi)):=by
 refine Qai (n:=53) Tryz.func136 rfl Tryz.ntmps136 rfl ?_
 have hs:=Own.lent hR hlt
 refine Qag (Qab (Qaa (Qac (V:=I6 (lo:Int)) rfl (Qaa (QaF (a:=(lo:Int)) (b:=1) (c:=((lo+1:Nat):Int)) rfl rfl (Qak (by omega) (by omega)) (Qaa (Qad (V:=I6 ((lo+1:Nat):Int)) rfl (Qae (Qan (QaD (fun J μ J' w'=>∃ (Jo:Env) (k:Nat) (m:List Cen),J'=upd (mix ([8,9]++sq 12 41) Jo J) 8 (I6 (k:Int))/\(lo+1<=k)/\(k<=hi∨k=lo+1)/\(m.length=N)/\(Qa9 l m lo hi)/\(Qbe cf m lo k)/\μ=hi-k/\Own w S w' [row (.slice a N c) (m.map cec) 106 7]) ?_ ?_))))))))))
 ·exact ⟨_,_,lo+1,l,Qal (Qap (ds:=([8,9]++sq 12 41)) (Agr.refl _ _)) rfl,(Nat.le_refl _),(Or.inr rfl),hz,(Qa9.refl l hlo (by omega)),(Qbe.small (Nat.le_refl _)),rfl,hs⟩
 rintro μ J' w1 ⟨Jo,k,m,rfl,hk0,hk,hz1,hpm,hor,rfl,hs⟩
 refine Qag (Qag (Qab (Qaa (Qac (V:=I6 (k:Int)) rfl (Qaa (Qac (V:=I6 (hi:Int)) rfl (Qaa (Qa2 rfl rfl (Qae (Qam (t:=decide ((k:Int)<(hi:Int))) rfl (fun c2=>?_) (fun c2=>?_)))))))))))
 ·
  replace c2:=QQ1 c2
  refine Qao (Qag (Qan (Qag (Qab (Qaa (Qac (V:=I6 (k:Int)) rfl (Qaa (Qad (V:=I6 (k:Int)) rfl (Qae (Qan (QaD (fun J μ J' w'=>∃ (Jo:Env) (j:Nat) (m2:List Cen),J'=upd (mix ([9]++sq 18 35) Jo J) 9 (I6 (j:Int))/\(lo<=j)/\(j<=k)/\(m2.length=N)/\(Qa9 l m2 lo hi)/\(Quo cf m2 lo k j)/\μ=j+1/\Own w S w' [row (.slice a N c) (m2.map cec) 106 7]) ?_ ?_)))))))))))
  ·exact ⟨_,_,k,m,Qal (Qap (ds:=([9]++sq 18 35)) (Agr.refl _ _)) rfl,(by omega),(Nat.le_refl _),hz1,hpm,(QlW hor),rfl,hs⟩
  rintro μ J' w3 ⟨Jo,j,m2,rfl,hj0,hj,hz2,hpm2,hin,rfl,hs⟩
  refine Qag (Qag (QaH HM [some 18,some 19,some 20,some 21,some 22,some 23,some 24,some 25,some 26,some 27,some 28,some 29,some 30,some 31,some 32,some 33,some 34] [] [0,0,3,7,15,15,15,111,239,15,15,1039,3599,7695,16383,32767,65535] [pv (I6 (j:Int)),pv (I6 (lo:Int)),pv (.bool (decide ((lo:Int)<(j:Int)))),pv (.bool (decide ((lo:Int)<(j:Int)))),pg ((decide ((lo:Int)<(j:Int))) == true) (.func (.func g) #[] #[]),pg ((decide ((lo:Int)<(j:Int))) == true) (.slice a N c),pg ((decide ((lo:Int)<(j:Int))) == true) (I6 (j:Int)),pg ((decide ((lo:Int)<(j:Int))) == true) (.pointer (some ⟨bkS (.slice a N c),ofS (.slice a N c)+(j:Int).toNat*7,none⟩)),pg ((decide ((lo:Int)<(j:Int))) == true) (.agg (cec (gd m2 j)).toArray),pg ((decide ((lo:Int)<(j:Int))) == true) (.slice a N c),pg ((decide ((lo:Int)<(j:Int))) == true) (I6 (j:Int)),pg ((decide ((lo:Int)<(j:Int))) == true) (I6 ((j-1:Nat):Int)),pg ((decide ((lo:Int)<(j:Int))) == true) (.pointer (some ⟨bkS (.slice a N c),ofS (.slice a N c)+((j-1:Nat):Int).toNat*7,none⟩)),pg ((decide ((lo:Int)<(j:Int))) == true) (.agg (cec (gd m2 (j-1))).toArray),pg ((decide ((lo:Int)<(j:Int))) == true) (I6 (cf (gd m2 j) (gd m2 (j-1)))),pg ((decide ((lo:Int)<(j:Int))) == true) (.bool (decide (cf (gd m2 j) (gd m2 (j-1))<0))),pv (.bool ((decide ((lo:Int)<(j:Int)))&&(decide (cf (gd m2 j) (gd m2 (j-1))<0))))] (fun _ _=>_) [16] (by kernel_rfl) hs ⟨?_,?_,?_,?_,?_,?_,?_,?_,?_,?_,?_,?_,?_,?_,?_,?_,?_,trivial⟩ ?_))
  ·exact oa [] fun D J w hs=>Qac (V:=.int .i64 (j:Int)) rfl (Zz hs)
  ·exact oa [] fun D J w hs=>Qac (V:=.int .i64 (lo:Int)) rfl (Zz hs)
  ·exact oa [0,1] fun D J w hs=>Qb2 rfl rfl (Zz hs)
  ·exact oa [2] fun D J w hs=>Qac (V:=.bool (decide ((lo:Int)<(j:Int)))) rfl (Zz hs)
  ·exact og [3] fun D J w hG hs=>Qac (V:=.func (.func g) #[] #[]) rfl (Zz hs)
  ·exact og [3] fun D J w hG hs=>Qac (V:=.slice a N c) rfl (Zz hs)
  ·exact og [3] fun D J w hG hs=>Qac (V:=.int .i64 (j:Int)) rfl (Zz hs)
  ·refine oy [3,5,6] [5,6] fun D J w hG hs=>?_
   have hgd:=QQ1 (eq_of_beq (hG))
   exact Qax QbC QaB.1 (hs.rd 0 rfl) rfl rfl (by omega) (by rw [QQ6];omega) (Zz hs)
  ·refine oy [3,7] [7] fun D J w hG hs=>?_
   have hgd:=QQ1 (eq_of_beq (hG))
   exact Qbb (j:=0) (vs:=cec (gd m2 j)) j QaB (hs.rd 0 rfl) (Qba (by omega)) rfl rfl rfl (by omega) (Zz hs)
  ·exact og [3] fun D J w hG hs=>Qac (V:=.slice a N c) rfl (Zz hs)
  ·exact og [3] fun D J w hG hs=>Qac (V:=.int .i64 (j:Int)) rfl (Zz hs)
  ·refine oy [3,10] [10] fun D J w hG hs=>?_
   have hgd:=QQ1 (eq_of_beq (hG))
   exact Qa5 (a:=(j:Int)) (b:=1) (c:=((j-1:Nat):Int)) rfl rfl (Qak (by omega) (by omega)) (Zz hs)
  ·refine oy [3,9,11] [9,11] fun D J w hG hs=>?_
   have hgd:=QQ1 (eq_of_beq (hG))
   exact Qax QbC QaB.1 (hs.rd 0 rfl) rfl rfl (by omega) (by rw [QQ6];omega) (Zz hs)
  ·refine oy [3,12] [12] fun D J w hG hs=>?_
   have hgd:=QQ1 (eq_of_beq (hG))
   exact Qbb (j:=0) (vs:=cec (gd m2 (j-1))) (j-1) QaB (hs.rd 0 rfl) (Qba (by omega)) rfl rfl rfl (by omega) (Zz hs)
  ·exact oy [3,4,8,13] [4,8,13] fun D J w hG hs=>Qfo (vs:=[.agg (cec (gd m2 j)).toArray,.agg (cec (gd m2 (j-1))).toArray]) (cs:=[]) (V:=.int .i64 (cf (gd m2 j) (gd m2 (j-1)))) hg rfl rfl (hcmp _ (gd m2 j) (gd m2 (j-1))) hs fun _ hs=>Zz hs
  ·exact oy [3,14] [14] fun D J w hG hs=>Qa2 rfl rfl (Zz hs)
  ·exact oa [3,15] fun D J w hs=>Qbn (h':=decide (cf (gd m2 j) (gd m2 (j-1))<0)) rfl rfl rfl (Zz hs)
  rintro J1 w5 J2 hJ hs
  replace hJ:J2=upd (mix (sq 18 17) J1 _) 34 (.bool ((decide ((lo:Int)<(j:Int)))&&(decide (cf (gd m2 j) (gd m2 (j-1))<0)))):=hJ
  subst hJ
  refine Qam (t:=(decide ((lo:Int)<(j:Int)))&&(decide (cf (gd m2 j) (gd m2 (j-1))<0))) rfl (fun c6=>?_) (fun c6=>?_)
  ·
   have c6r:=Qcy c6
   replace c6:=Qb3 c6
   replace c6:=QQ1 c6
   replace c6r:=QQ1 c6r
   refine Qao (Qag (Qan (QaH HM [some 37,some 38,some 39,some 40,some 41,some 42,some 43,some 44,some 45,some 46,some 47,some 48,some 49,some 50,some 51,none,some 52,none] [] [0,0,0,0,8,0,0,64,224,480,0,0,3072,7168,16355,32739,65535,131071] [pv (.slice a N c),pv (I6 (j:Int)),pv (.slice a N c),pv (I6 (j:Int)),pv (I6 ((j-1:Nat):Int)),pv (.slice a N c),pv (I6 (j:Int)),pv (I6 ((j-1:Nat):Int)),pv (.pointer (some ⟨bkS (.slice a N c),ofS (.slice a N c)+((j-1:Nat):Int).toNat*7,none⟩)),pv (.agg (cec (gd m2 (j-1))).toArray),pv (.slice a N c),pv (I6 (j:Int)),pv (.pointer (some ⟨bkS (.slice a N c),ofS (.slice a N c)+(j:Int).toNat*7,none⟩)),pv (.agg (cec (gd m2 j)).toArray),pv (.pointer (some ⟨bkS (.slice a N c),ofS (.slice a N c)+(j:Int).toNat*7,none⟩)),pn,pv (.pointer (some ⟨bkS (.slice a N c),ofS (.slice a N c)+((j-1:Nat):Int).toNat*7,none⟩)),pn] (fun D J=>[cond (D 17) (row (.slice a N c) (((m2.set j (gd m2 (j-1))).set (j-1) (gd m2 j)).map cec) 106 7) (cond (D 15) (row (.slice a N c) ((m2.set j (gd m2 (j-1))).map cec) 106 7) (row (.slice a N c) (m2.map cec) 106 7))]) [] (by kernel_rfl) hs ⟨?_,?_,?_,?_,?_,?_,?_,?_,?_,?_,?_,?_,?_,?_,?_,?_,?_,?_,trivial⟩ ?_)))
   ·exact oa [] fun D J w hs=>Qac (V:=.slice a N c) rfl (Zz hs)
   ·exact oa [] fun D J w hs=>Qac (V:=.int .i64 (j:Int)) rfl (Zz hs)
   ·exact oa [] fun D J w hs=>Qac (V:=.slice a N c) rfl (Zz hs)
   ·exact oa [] fun D J w hs=>Qac (V:=.int .i64 (j:Int)) rfl (Zz hs)
   ·exact oa [3] fun D J w hs=>Qa5 (a:=(j:Int)) (b:=1) (c:=((j-1:Nat):Int)) rfl rfl (Qak (by omega) (by omega)) (Zz hs)
   ·exact oa [] fun D J w hs=>Qac (V:=.slice a N c) rfl (Zz hs)
   ·exact oa [] fun D J w hs=>Qac (V:=.int .i64 (j:Int)) rfl (Zz hs)
   ·exact oa [6] fun D J w hs=>Qa5 (a:=(j:Int)) (b:=1) (c:=((j-1:Nat):Int)) rfl rfl (Qak (by omega) (by omega)) (Zz hs)
   ·exact ob [5,7] [15,17] rfl rfl fun D J w hs=>Qax QbC QaB.1 (hs.rd 0 rfl) rfl rfl (by omega) (by rw [QQ6];omega) (Zz hs)
   ·exact ob [8] [15,17] rfl rfl fun D J w hs=>Qbb (j:=0) (vs:=cec (gd m2 (j-1))) (j-1) QaB (hs.rd 0 rfl) (Qba (by omega)) rfl rfl rfl (by omega) (Zz hs)
   ·exact oa [] fun D J w hs=>Qac (V:=.slice a N c) rfl (Zz hs)
   ·exact oa [] fun D J w hs=>Qac (V:=.int .i64 (j:Int)) rfl (Zz hs)
   ·exact ob [10,11] [15,17] rfl rfl fun D J w hs=>Qax QbC QaB.1 (hs.rd 0 rfl) rfl rfl (by omega) (by rw [QQ6];omega) (Zz hs)
   ·exact ob [12] [15,17] rfl rfl fun D J w hs=>Qbb (j:=0) (vs:=cec (gd m2 j)) j QaB (hs.rd 0 rfl) (Qba (by omega)) rfl rfl rfl (by omega) (Zz hs)
   ·exact ob [0,1] [15,17] rfl rfl fun D J w hs=>Qax QbC QaB.1 (hs.rd 0 rfl) rfl rfl (by omega) (by rw [QQ6];omega) (Zz hs)
   ·exact ob [9,14] [17] rfl rfl fun D J w hs=>QhE (z:=gd m2 (j-1)) j QaB.1 hs 0 rfl rfl rfl (by first|omega|(simp only [List.length_set];omega)) rfl rfl rfl (Qbj _) fun _ hs=>⟨trivial,hs⟩
   ·exact ob [2,4,15] [17] rfl rfl fun D J w hs=>Qax QbC QaB.1 (hs.rd 0 rfl) rfl rfl (by omega) (by simp only [QQ6,List.length_set];omega) (Zz hs)
   ·exact oa [13,15,16] fun D J w hs=>QhE (z:=gd m2 j) (j-1) QaB.1 hs 0 rfl rfl rfl (by first|omega|(simp only [List.length_set];omega)) rfl rfl rfl (Qbj _) fun _ hs=>⟨trivial,hs⟩
   rintro J1 w9 J2 hJ hs
   replace hJ:J2=mix (sq 37 16) J1 _:=hJ
   replace hs:Own w S w9 [row (.slice a N c) (((m2.set j (gd m2 (j-1))).set (j-1) (gd m2 j)).map cec) 106 7]:=hs
   subst hJ
   replace hs:Own w S _ [row (.slice a N c) ((swL m2 j (j-1)).map cec) 106 7]:=hs.take 1
   refine Qab (Qaa (Qac (V:=I6 (j:Int)) rfl (Qaa (Qa5 (a:=(j:Int)) (b:=1) (c:=((j-1:Nat):Int)) rfl rfl (Qak (by omega) (by omega)) (Qaa (Qad (V:=I6 ((j-1:Nat):Int)) rfl (Qae ?_)))))))
   refine ⟨_,?_,_,j-1,swL m2 j (j-1),Qal (Qap (ds:=([9]++sq 18 35)) (by repeat (first|exact Agr.refl _ _|refine Agr.upd ?_ rfl|refine Agr.mix ?_ rfl))) rfl,(by omega),(by omega),(by rw [QhA];exact hz2),(hpm2.trans (Qr3 (by omega) (by omega) (by omega) (by omega) (by omega))),(Qpg hc hin (by omega) (by omega) (by omega) c6r),rfl,hs.take 1⟩
   omega
  refine QaJ ?_
  have hor2:Qbe cf m2 lo (k+1):=Qsq hc hin hj0 (by
      have ht:=c6
      rcases Nat.lt_or_ge lo j with q|q
      ·right;intro h;simp [q,h] at ht
      ·left;omega)
  refine Qab (Qaa (Qac (V:=I6 (k:Int)) rfl (Qaa (QaF (a:=(k:Int)) (b:=1) (c:=((k+1:Nat):Int)) rfl rfl (Qak (by omega) (by omega)) (Qaa (Qad (V:=I6 ((k+1:Nat):Int)) rfl (Qae ?_)))))))
  refine ⟨_,?_,_,k+1,m2,Qal (Qap (ds:=([8,9]++sq 12 41)) (by repeat (first|exact Agr.refl _ _|refine Agr.upd ?_ rfl|refine Agr.mix ?_ rfl))) rfl,(by omega),(by omega),hz2,hpm2,hor2,rfl,hs.take 1⟩
  omega
 replace c2:=QQ2 c2
 refine QaJ ?_
 refine ⟨_,Qbf Tryz.results136,?_⟩
 refine ⟨m,rfl,hs.take 1,hz1,hpm,?_⟩
 rcases Nat.lt_or_ge k hi with q|q
 ·omega
 exact hor.sub (Nat.le_refl _) q
end Tt
end Go.Proofs
namespace Go.Proofs
open Go Go.Vx Go.RowKit
namespace Tt
theorem Qmj (w:World) (S:Nat->Prop) (a:Option Addr) (N c:Nat) (l:List Cen) (hz:l.length=N) (hN:N<=2305843009213693951) (p q n:Nat) (hp:p+n<=N) (hq:q+n<=N) (g:Nat) (hg:En Tryz.prog g) (cf:Cen->Cen->Int) (hc:CmpO cf) (hcmp:∀ (w:World) (x y:Cen),Calls Tryz.prog g #[.agg (cec x).toArray,.agg (cec y).toArray] w (fun e w'=>e = .returned (.int .i64 (cf x y))/\Own w no w' [])) (hR:(row (.slice a N c) (l.map cec) 106 7).holds w S) (hlt:∀ b,S b->b<w.heap.size):Calls Tryz.prog 184 #[.slice a N c,.int .i64 (p:Int),.int .i64 (q:Int),.int .i64 (n:Int),.func (.func g) #[] #[]] w (fun e w'=>∃ x:List Cen,e = .returned (.tuple #[])/\Own w S w' [row (.slice a N c) (x.map cec) 106 7]/\(x.length=N/\x=swN l p q n)):=by
 refine Qai (n:=38) Tryz.func184 rfl Tryz.ntmps184 rfl ?_
 have hs:=Own.lent hR hlt
 refine Qag (Qab (Qaa (Qad (V:=I6 0) rfl (Qae (Qan (QaD (fun J μ J' w'=>∃ (Jo:Env) (k:Nat) (m:List Cen),J'=upd (mix (sq 10 28) Jo J) 10 (I6 (k:Int))/\(k<=n)/\(m.length=N)/\(m=swN l p q k)/\μ=n-k/\Own w S w' [row (.slice a N c) (m.map cec) 106 7]) ?_ ?_))))))
 ·exact ⟨_,_,0,l,Qal (Qap (ds:=(sq 10 28)) (Agr.refl _ _)) rfl,(Nat.zero_le _),hz,rfl,rfl,hs⟩
 rintro μ J' w1 ⟨Jo,k,m,rfl,hk,hz1,hm,rfl,hs⟩
 refine Qag (Qag (Qab (Qaa (Qac (V:=I6 (k:Int)) rfl (Qaa (Qac (V:=I6 (n:Int)) rfl (Qaa (Qa2 rfl rfl (Qae (Qam (t:=decide ((k:Int)<(n:Int))) rfl (fun c2=>?_) (fun c2=>?_)))))))))))
 ·
  replace c2:=QQ1 c2
  refine Qao (Qag (Qan (QaH HM [some 16,some 17,some 18,some 19,some 20,some 21,some 22,some 23,some 24,some 25,some 26,some 27,some 28,some 29,some 30,some 31,some 32,some 33,some 34,some 35,some 36,none,some 37,none] [] [0,0,0,6,0,0,0,96,0,0,0,1536,3840,7936,0,0,0,98304,245760,507904,1048335,2096911,4194303,8388607] [pv (.slice a N c),pv (I6 (p:Int)),pv (I6 (k:Int)),pv (I6 ((p+k:Nat):Int)),pv (.slice a N c),pv (I6 (q:Int)),pv (I6 (k:Int)),pv (I6 ((q+k:Nat):Int)),pv (.slice a N c),pv (I6 (q:Int)),pv (I6 (k:Int)),pv (I6 ((q+k:Nat):Int)),pv (.pointer (some ⟨bkS (.slice a N c),ofS (.slice a N c)+((q+k:Nat):Int).toNat*7,none⟩)),pv (.agg (cec (gd m (q+k))).toArray),pv (.slice a N c),pv (I6 (p:Int)),pv (I6 (k:Int)),pv (I6 ((p+k:Nat):Int)),pv (.pointer (some ⟨bkS (.slice a N c),ofS (.slice a N c)+((p+k:Nat):Int).toNat*7,none⟩)),pv (.agg (cec (gd m (p+k))).toArray),pv (.pointer (some ⟨bkS (.slice a N c),ofS (.slice a N c)+((p+k:Nat):Int).toNat*7,none⟩)),pn,pv (.pointer (some ⟨bkS (.slice a N c),ofS (.slice a N c)+((q+k:Nat):Int).toNat*7,none⟩)),pn] (fun D J=>[cond (D 23) (row (.slice a N c) (((m.set (p+k) (gd m (q+k))).set (q+k) (gd m (p+k))).map cec) 106 7) (cond (D 21) (row (.slice a N c) ((m.set (p+k) (gd m (q+k))).map cec) 106 7) (row (.slice a N c) (m.map cec) 106 7))]) [] (by kernel_rfl) hs ⟨?_,?_,?_,?_,?_,?_,?_,?_,?_,?_,?_,?_,?_,?_,?_,?_,?_,?_,?_,?_,?_,?_,?_,?_,trivial⟩ ?_)))
  ·exact oa [] fun D J w hs=>Qac (V:=.slice a N c) rfl (Zz hs)
  ·exact oa [] fun D J w hs=>Qac (V:=.int .i64 (p:Int)) rfl (Zz hs)
  ·exact oa [] fun D J w hs=>Qac (V:=.int .i64 (k:Int)) rfl (Zz hs)
  ·exact oa [1,2] fun D J w hs=>QaF (a:=(p:Int)) (b:=(k:Int)) (c:=((p+k:Nat):Int)) rfl rfl (Qak (by omega) (by omega)) (Zz hs)
  ·exact oa [] fun D J w hs=>Qac (V:=.slice a N c) rfl (Zz hs)
  ·exact oa [] fun D J w hs=>Qac (V:=.int .i64 (q:Int)) rfl (Zz hs)
  ·exact oa [] fun D J w hs=>Qac (V:=.int .i64 (k:Int)) rfl (Zz hs)
  ·exact oa [5,6] fun D J w hs=>QaF (a:=(q:Int)) (b:=(k:Int)) (c:=((q+k:Nat):Int)) rfl rfl (Qak (by omega) (by omega)) (Zz hs)
  ·exact oa [] fun D J w hs=>Qac (V:=.slice a N c) rfl (Zz hs)
  ·exact oa [] fun D J w hs=>Qac (V:=.int .i64 (q:Int)) rfl (Zz hs)
  ·exact oa [] fun D J w hs=>Qac (V:=.int .i64 (k:Int)) rfl (Zz hs)
  ·exact oa [9,10] fun D J w hs=>QaF (a:=(q:Int)) (b:=(k:Int)) (c:=((q+k:Nat):Int)) rfl rfl (Qak (by omega) (by omega)) (Zz hs)
  ·exact ob [8,11] [21,23] rfl rfl fun D J w hs=>Qax QbC QaB.1 (hs.rd 0 rfl) rfl rfl (by omega) (by rw [QQ6];omega) (Zz hs)
  ·exact ob [12] [21,23] rfl rfl fun D J w hs=>Qbb (j:=0) (vs:=cec (gd m (q+k))) (q+k) QaB (hs.rd 0 rfl) (Qba (by omega)) rfl rfl rfl (by omega) (Zz hs)
  ·exact oa [] fun D J w hs=>Qac (V:=.slice a N c) rfl (Zz hs)
  ·exact oa [] fun D J w hs=>Qac (V:=.int .i64 (p:Int)) rfl (Zz hs)
  ·exact oa [] fun D J w hs=>Qac (V:=.int .i64 (k:Int)) rfl (Zz hs)
  ·exact oa [15,16] fun D J w hs=>QaF (a:=(p:Int)) (b:=(k:Int)) (c:=((p+k:Nat):Int)) rfl rfl (Qak (by omega) (by omega)) (Zz hs)
  ·exact ob [14,17] [21,23] rfl rfl fun D J w hs=>Qax QbC QaB.1 (hs.rd 0 rfl) rfl rfl (by omega) (by rw [QQ6];omega) (Zz hs)
  ·exact ob [18] [21,23] rfl rfl fun D J w hs=>Qbb (j:=0) (vs:=cec (gd m (p+k))) (p+k) QaB (hs.rd 0 rfl) (Qba (by omega)) rfl rfl rfl (by omega) (Zz hs)
  ·exact ob [0,3] [21,23] rfl rfl fun D J w hs=>Qax QbC QaB.1 (hs.rd 0 rfl) rfl rfl (by omega) (by rw [QQ6];omega) (Zz hs)
  ·exact ob [13,20] [23] rfl rfl fun D J w hs=>QhE (z:=gd m (q+k)) (p+k) QaB.1 hs 0 rfl rfl rfl (by first|omega|(simp only [List.length_set];omega)) rfl rfl rfl (Qbj _) fun _ hs=>⟨trivial,hs⟩
  ·exact ob [4,7,21] [23] rfl rfl fun D J w hs=>Qax QbC QaB.1 (hs.rd 0 rfl) rfl rfl (by omega) (by simp only [QQ6,List.length_set];omega) (Zz hs)
  ·exact oa [19,21,22] fun D J w hs=>QhE (z:=gd m (p+k)) (q+k) QaB.1 hs 0 rfl rfl rfl (by first|omega|(simp only [List.length_set];omega)) rfl rfl rfl (Qbj _) fun _ hs=>⟨trivial,hs⟩
  rintro J1 w5 J2 hJ hs
  replace hJ:J2=mix (sq 16 22) J1 _:=hJ
  replace hs:Own w S w5 [row (.slice a N c) (((m.set (p+k) (gd m (q+k))).set (q+k) (gd m (p+k))).map cec) 106 7]:=hs
  subst hJ
  replace hs:Own w S _ [row (.slice a N c) ((swL m (p+k) (q+k)).map cec) 106 7]:=hs.take 1
  refine Qab (Qaa (Qac (V:=I6 (k:Int)) rfl (Qaa (QaF (a:=(k:Int)) (b:=1) (c:=((k+1:Nat):Int)) rfl rfl (Qak (by omega) (by omega)) (Qaa (Qad (V:=I6 ((k+1:Nat):Int)) rfl (Qae ?_)))))))
  refine ⟨_,?_,_,k+1,swL m (p+k) (q+k),Qal (Qap (ds:=(sq 10 28)) (by repeat (first|exact Agr.refl _ _|refine Agr.upd ?_ rfl|refine Agr.mix ?_ rfl))) rfl,(by omega),(by rw [QhA];exact hz1),(by rw [Qj0,← hm]),rfl,hs.take 1⟩
  omega
 replace c2:=QQ2 c2
 refine QaJ ?_
 refine ⟨_,Qbf Tryz.results184,?_⟩
 exact ⟨m,rfl,hs.take 1,hz1,by rw [hm,show k=n by omega]⟩
theorem Qsz (w:World) (S:Nat->Prop) (a:Option Addr) (N c:Nat) (l:List Cen) (hz:l.length=N) (hN:N<=2305843009213693951) (lo mid hi:Nat) (h1:lo<mid) (h2:mid<hi) (h3:hi<=N) (g:Nat) (hg:En Tryz.prog g) (cf:Cen->Cen->Int) (hc:CmpO cf) (hcmp:∀ (w:World) (x y:Cen),Calls Tryz.prog g #[.agg (cec x).toArray,.agg (cec y).toArray] w (fun e w'=>e = .returned (.int .i64 (cf x y))/\Own w no w' [])) (hR:(row (.slice a N c) (l.map cec) 106 7).holds w S) (hlt:∀ b,S b->b<w.heap.size):Calls Tryz.prog 170 #[.slice a N c,.int .i64 (lo:Int),.int .i64 (mid:Int),.int .i64 (hi:Int),.func (.func g) #[] #[]] w (fun e w'=>∃ x:List Cen,e = .returned (.tuple #[])/\Own w S w' [row (.slice a N c) (x.map cec) 106 7]/\(x.length=N/\Qb4 l x lo mid hi)):=by
 refine Qai (n:=58) Tryz.func170 rfl Tryz.ntmps170 rfl ?_
 have hs:=Own.lent hR hlt
 obtain ⟨t,hrt,hro0⟩:=Qja (l:=l) (a:=lo) (m:=mid) (b:=hi) (by omega) (by omega) (by omega)
 refine Qag (Qab (Qaa (Qac (V:=I6 (mid:Int)) rfl (Qaa (Qac (V:=I6 (lo:Int)) rfl (Qaa (Qa5 (a:=(mid:Int)) (b:=(lo:Int)) (c:=((mid-lo:Nat):Int)) rfl rfl (Qak (by omega) (by omega)) (Qaa (Qad (V:=I6 ((mid-lo:Nat):Int)) rfl (Qae (Qag (Qab (Qaa (Qac (V:=I6 (hi:Int)) rfl (Qaa (Qac (V:=I6 (mid:Int)) rfl (Qaa (Qa5 (a:=(hi:Int)) (b:=(mid:Int)) (c:=((hi-mid:Nat):Int)) rfl rfl (Qak (by omega) (by omega)) (Qaa (Qad (V:=I6 ((hi-mid:Nat):Int)) rfl (Qae (Qag (Qan (QaD (fun J μ J' w'=>∃ (Jo:Env) (i:Nat) (j:Nat) (m:List Cen),J'=upd (upd (mix ([10,11]++sq 18 32) Jo J) 10 (I6 (i:Int))) 11 (I6 (j:Int))/\(0<i)/\(0<j)/\(m.length=N)/\(Qh7 m t mid i j)/\μ=i+j/\Own w S w' [row (.slice a N c) (m.map cec) 106 7]) ?_ ?_))))))))))))))))))))))))
 ·exact ⟨_,_,mid-lo,hi-mid,l,Qal (Qal (Qap (ds:=([10,11]++sq 18 32)) (Agr.refl _ _)) rfl) rfl,(by omega),(by omega),hz,hro0,rfl,hs⟩
 rintro μ J' w1 ⟨Jo,i,j,m,rfl,hi0,hj0,hz1,hro,rfl,hs⟩
 have hrl:=Qiw hro
 refine Qag (Qag (Qab (Qaa (Qac (V:=I6 (i:Int)) rfl (Qaa (Qac (V:=I6 (j:Int)) rfl (Qaa (Qcv rfl rfl (Qae (Qam (t:=!decide ((i:Int)=(j:Int))) rfl (fun c2=>?_) (fun c2=>?_)))))))))))
 ·
  replace c2:=Qby c2
  replace c2:=QQ2 c2
  refine Qao (Qan (Qag (Qab (Qaa (Qac (V:=I6 (i:Int)) rfl (Qaa (Qac (V:=I6 (j:Int)) rfl (Qaa (Qb2 rfl rfl (Qae (Qam (t:=decide ((j:Int)<(i:Int))) rfl (fun c3=>?_) (fun c3=>?_))))))))))))
  ·
   replace c3:=QQ1 c3
   refine Qag (Qab (Qaa (Qac (V:=.slice a N c) rfl (Qaa (Qac (V:=I6 (mid:Int)) rfl (Qaa (Qac (V:=I6 (i:Int)) rfl (Qaa (Qa5 (a:=(mid:Int)) (b:=(i:Int)) (c:=((mid-i:Nat):Int)) rfl rfl (Qak (by omega) (by omega)) (Qaa (Qac (V:=I6 (mid:Int)) rfl (Qaa (Qac (V:=I6 (j:Int)) rfl (Qaa (Qac (V:=.func (.func g) #[] #[]) rfl (Qaa (Qbr (α:=List Cen) (vs:=[.slice a N c,I6 ((mid-i:Nat):Int),I6 (mid:Int),I6 (j:Int),.func (.func g) #[] #[]]) (V:=fun _=>.tuple #[]) (R:=row (.slice a N c) (m.map cec) 106 7) (R':=fun x=>row (.slice a N c) (x.map cec) 106 7) (Lo:=fun _=>[]) (F:=fun x _=>x.length=N/\x=swN m (mid-i) mid j) QmO rfl rfl hs 0 rfl (fun S hS hlt=>Qmj _ S a N c m (by first|assumption|omega) hN (mid-i) mid j (by omega) (by omega) g hg cf hc hcmp hS hlt) fun mz4 w5 hs hF6=>(Qae (Qab (Qaa (Qac (V:=I6 (i:Int)) rfl (Qaa (Qac (V:=I6 (j:Int)) rfl (Qaa (Qa5 (a:=(i:Int)) (b:=(j:Int)) (c:=((i-j:Nat):Int)) rfl rfl (Qak (by omega) (by omega)) (Qaa (Qad (V:=I6 ((i-j:Nat):Int)) rfl (Qae ?_))))))))))))))))))))))))))))
   refine ⟨_,?_,_,i-j,j,mz4,Qal (Qal (Qap (ds:=([10,11]++sq 18 32)) (by repeat (first|exact Agr.refl _ _|refine Agr.upd ?_ rfl|refine Agr.mix ?_ rfl))) rfl) rfl,(by omega),(by omega),hF6.1,(by rw [hF6.2];exact QpH hro (by omega)),rfl,hs.take 1⟩
   omega
  replace c3:=QQ2 c3
  refine Qag (Qab (Qaa (Qac (V:=.slice a N c) rfl (Qaa (Qac (V:=I6 (mid:Int)) rfl (Qaa (Qac (V:=I6 (i:Int)) rfl (Qaa (Qa5 (a:=(mid:Int)) (b:=(i:Int)) (c:=((mid-i:Nat):Int)) rfl rfl (Qak (by omega) (by omega)) (Qaa (Qac (V:=I6 (mid:Int)) rfl (Qaa (Qac (V:=I6 (j:Int)) rfl (Qaa (QaF (a:=(mid:Int)) (b:=(j:Int)) (c:=((mid+j:Nat):Int)) rfl rfl (Qak (by omega) (by omega)) (Qaa (Qac (V:=I6 (i:Int)) rfl (Qaa (Qa5 (a:=((mid+j:Nat):Int)) (b:=(i:Int)) (c:=(((mid+j)-i:Nat):Int)) rfl rfl (Qak (by omega) (by omega)) (Qaa (Qac (V:=I6 (i:Int)) rfl (Qaa (Qac (V:=.func (.func g) #[] #[]) rfl (Qaa (Qbr (α:=List Cen) (vs:=[.slice a N c,I6 ((mid-i:Nat):Int),I6 (((mid+j)-i:Nat):Int),I6 (i:Int),.func (.func g) #[] #[]]) (V:=fun _=>.tuple #[]) (R:=row (.slice a N c) (m.map cec) 106 7) (R':=fun x=>row (.slice a N c) (x.map cec) 106 7) (Lo:=fun _=>[]) (F:=fun x _=>x.length=N/\x=swN m (mid-i) ((mid+j)-i) i) QmO rfl rfl hs 0 rfl (fun S hS hlt=>Qmj _ S a N c m (by first|assumption|omega) hN (mid-i) ((mid+j)-i) i (by omega) (by omega) g hg cf hc hcmp hS hlt) fun mz7 w8 hs hF9=>(Qae (Qab (Qaa (Qac (V:=I6 (j:Int)) rfl (Qaa (Qac (V:=I6 (i:Int)) rfl (Qaa (Qa5 (a:=(j:Int)) (b:=(i:Int)) (c:=((j-i:Nat):Int)) rfl rfl (Qak (by omega) (by omega)) (Qaa (Qad (V:=I6 ((j-i:Nat):Int)) rfl (Qae ?_))))))))))))))))))))))))))))))))))))
  refine ⟨_,?_,_,i,j-i,mz7,Qal (Qal (Qap (ds:=([10,11]++sq 18 32)) (by repeat (first|exact Agr.refl _ _|refine Agr.upd ?_ rfl|refine Agr.mix ?_ rfl))) rfl) rfl,(by omega),(by omega),hF9.1,(by rw [hF9.2];exact Qpi hro (by omega)),rfl,hs.take 1⟩
  omega
 replace c2:=Qbu c2
 replace c2:=QQ1 c2
 refine QaJ ?_
 have hrl:=Qiw hro
 have hij:i=j:=by omega
 refine Qab (Qaa (Qac (V:=.slice a N c) rfl (Qaa (Qac (V:=I6 (mid:Int)) rfl (Qaa (Qac (V:=I6 (i:Int)) rfl (Qaa (Qa5 (a:=(mid:Int)) (b:=(i:Int)) (c:=((mid-i:Nat):Int)) rfl rfl (Qak (by omega) (by omega)) (Qaa (Qac (V:=I6 (mid:Int)) rfl (Qaa (Qac (V:=I6 (i:Int)) rfl (Qaa (Qac (V:=.func (.func g) #[] #[]) rfl (Qaa (Qbr (α:=List Cen) (vs:=[.slice a N c,I6 ((mid-i:Nat):Int),I6 (mid:Int),I6 (i:Int),.func (.func g) #[] #[]]) (V:=fun _=>.tuple #[]) (R:=row (.slice a N c) (m.map cec) 106 7) (R':=fun x=>row (.slice a N c) (x.map cec) 106 7) (Lo:=fun _=>[]) (F:=fun x _=>x.length=N/\x=swN m (mid-i) mid i) QmO rfl rfl hs 0 rfl (fun S hS hlt=>Qmj _ S a N c m (by first|assumption|omega) hN (mid-i) mid i (by omega) (by omega) g hg cf hc hcmp hS hlt) fun mz10 w11 hs hF12=>(Qae ?_)))))))))))))))))
 refine ⟨_,Qbf Tryz.results170,?_⟩
 have hxt:mz10=t:=by rw [hF12.2];exact Qpy hro (by omega)
 rw [hxt] at hs
 exact ⟨t,rfl,hs.take 1,by rw [← hxt];exact hF12.1,hrt⟩
end Tt
end Go.Proofs
namespace Go.Proofs
open Go Go.Vx Go.RowKit
namespace Tt
theorem Qm8 (d:Nat) (g:Nat) (hg:En Tryz.prog g) (cf:Cen->Cen->Int) (hc:CmpO cf) (hcmp:∀ (w:World) (x y:Cen),Calls Tryz.prog g #[.agg (cec x).toArray,.agg (cec y).toArray] w (fun e w'=>e = .returned (.int .i64 (cf x y))/\Own w no w' [])) (ih:Quv Tryz.prog 157 g 106 7 cec cf d) (w:World) (S:Nat->Prop) (a:Option Addr) (N c:Nat) (l:List Cen) (lo mid hi:Nat) (hz:l.length=N) (hN:N<=2305843009213693951) (hd:hi-lo<=d+1) (h1:lo<mid) (h2:mid<hi) (h3:hi<=N) (ho1:Qbe cf l lo mid) (ho2:Qbe cf l mid hi) (hR:(row (.slice a N c) (l.map cec) 106 7).holds w S) (hlt:∀ b,S b->b<w.heap.size):Calls Tryz.prog 157 #[.slice a N c,.int .i64 (lo:Int),.int .i64 (mid:Int),.int .i64 (hi:Int),.func (.func g) #[] #[]] w (fun e w'=>∃ x:List Cen,e = .returned (.tuple #[])/\Own w S w' [row (.slice a N c) (x.map cec) 106 7]/\(x.length=N/\Merged cf l x lo hi)):=by
 refine Qai (n:=220) Tryz.func157 rfl Tryz.ntmps157 rfl ?_
 have hs:=Own.lent hR hlt
 refine Qag (Qag (Qab (Qaa (Qac (V:=I6 (mid:Int)) rfl (Qaa (Qac (V:=I6 (lo:Int)) rfl (Qaa (Qa5 (a:=(mid:Int)) (b:=(lo:Int)) (c:=((mid-lo:Nat):Int)) rfl rfl (Qak (by omega) (by omega)) (Qaa (QaZ rfl rfl (Qae (Qam (t:=decide (((mid-lo:Nat):Int)=1)) rfl (fun c1=>?_) (fun c1=>?_)))))))))))))
 ·
  replace c1:=QQ1 c1
  refine Qag (Qab (Qaa (Qac (V:=I6 (mid:Int)) rfl (Qaa (Qad (V:=I6 (mid:Int)) rfl (Qae (Qag (Qab (Qaa (Qac (V:=I6 (hi:Int)) rfl (Qaa (Qad (V:=I6 (hi:Int)) rfl (Qae (Qag (Qan (QaD (fun J μ J' w'=>∃ (Jo:Env) (i:Nat) (j:Nat),J'=upd (upd (mix ([10,11,12]++sq 31 23) Jo J) 10 (I6 (i:Int))) 11 (I6 (j:Int))/\(mid<=i)/\(i<=j)/\(j<=hi)/\(i=mid∨cf (gd l (i-1)) (gd l lo)<0)/\(j=hi∨¬cf (gd l j) (gd l lo)<0)/\μ=j-i/\Own w S w' [row (.slice a N c) (l.map cec) 106 7]) ?_ ?_))))))))))))))))
  ·exact ⟨_,_,mid,hi,Qal (Qal (Qap (ds:=([10,11,12]++sq 31 23)) (Agr.refl _ _)) rfl) rfl,(Nat.le_refl _),(by omega),(Nat.le_refl _),(Or.inl rfl),(Or.inl rfl),rfl,hs⟩
  rintro μ J' w2 ⟨Jo,i,j,rfl,hi1,hij,hj1,hi2,hj2,rfl,hs⟩
  refine Qag (Qag (Qab (Qaa (Qac (V:=I6 (i:Int)) rfl (Qaa (Qac (V:=I6 (j:Int)) rfl (Qaa (Qa2 rfl rfl (Qae (Qam (t:=decide ((i:Int)<(j:Int))) rfl (fun c3=>?_) (fun c3=>?_)))))))))))
  ·
   replace c3:=QQ1 c3
   refine Qao (Qan (Qag (Qab (Qaa (Qac (V:=I6 (i:Int)) rfl (Qaa (Qac (V:=I6 (j:Int)) rfl (Qaa (QaF (a:=(i:Int)) (b:=(j:Int)) (c:=((i+j:Nat):Int)) rfl rfl (Qak (by omega) (by omega)) (Qaa (Qcl QhS Qdm rfl (QdO (by omega) (by omega)) (Qaa (Qg8 rfl rfl (Qaa (Qcl Qdm QhS rfl (QbE (by omega) (by omega)) (Qaa (Qad (V:=I6 (((i+j)/2:Nat):Int)) rfl (Qae (Qag (QaH HM [some 40,some 41,some 42,some 43,some 44,some 45,some 46,some 47,some 48,some 49,some 50] [] [0,0,0,6,14,0,0,96,224,511,1023] [pv (.func (.func g) #[] #[]),pv (.slice a N c),pv (I6 (((i+j)/2:Nat):Int)),pv (.pointer (some ⟨bkS (.slice a N c),ofS (.slice a N c)+(((i+j)/2:Nat):Int).toNat*7,none⟩)),pv (.agg (cec (gd l ((i+j)/2))).toArray),pv (.slice a N c),pv (I6 (lo:Int)),pv (.pointer (some ⟨bkS (.slice a N c),ofS (.slice a N c)+(lo:Int).toNat*7,none⟩)),pv (.agg (cec (gd l lo)).toArray),pv (I6 (cf (gd l ((i+j)/2)) (gd l lo))),pv (.bool (decide (cf (gd l ((i+j)/2)) (gd l lo)<0)))] (fun _ _=>_) [10] (by kernel_rfl) hs ⟨?_,?_,?_,?_,?_,?_,?_,?_,?_,?_,?_,trivial⟩ ?_))))))))))))))))))))
   ·exact oa [] fun D J w hs=>Qac (V:=.func (.func g) #[] #[]) rfl (Zz hs)
   ·exact oa [] fun D J w hs=>Qac (V:=.slice a N c) rfl (Zz hs)
   ·exact oa [] fun D J w hs=>Qac (V:=.int .i64 (((i+j)/2:Nat):Int)) rfl (Zz hs)
   ·exact oa [1,2] fun D J w hs=>Qax QbC QaB.1 (hs.rd 0 rfl) rfl rfl (by omega) (by rw [QQ6];omega) (Zz hs)
   ·exact oa [3] fun D J w hs=>Qbb (j:=0) (vs:=cec (gd l ((i+j)/2))) ((i+j)/2) QaB (hs.rd 0 rfl) (Qba (by omega)) rfl rfl rfl (by omega) (Zz hs)
   ·exact oa [] fun D J w hs=>Qac (V:=.slice a N c) rfl (Zz hs)
   ·exact oa [] fun D J w hs=>Qac (V:=.int .i64 (lo:Int)) rfl (Zz hs)
   ·exact oa [5,6] fun D J w hs=>Qax QbC QaB.1 (hs.rd 0 rfl) rfl rfl (by omega) (by rw [QQ6];omega) (Zz hs)
   ·exact oa [7] fun D J w hs=>Qbb (j:=0) (vs:=cec (gd l lo)) lo QaB (hs.rd 0 rfl) (Qba (by omega)) rfl rfl rfl (by omega) (Zz hs)
   ·exact oa [0,4,8] fun D J w hs=>Qfo (vs:=[.agg (cec (gd l ((i+j)/2))).toArray,.agg (cec (gd l lo)).toArray]) (cs:=[]) (V:=.int .i64 (cf (gd l ((i+j)/2)) (gd l lo))) hg rfl rfl (hcmp _ (gd l ((i+j)/2)) (gd l lo)) hs fun _ hs=>Zz hs
   ·exact oa [9] fun D J w hs=>Qa2 rfl rfl (Zz hs)
   rintro J1 w5 J2 hJ hs
   replace hJ:J2=upd (mix (sq 40 11) J1 _) 50 (.bool (decide (cf (gd l ((i+j)/2)) (gd l lo)<0))):=hJ
   subst hJ
   refine Qam (t:=decide (cf (gd l ((i+j)/2)) (gd l lo)<0)) rfl (fun c6=>?_) (fun c6=>?_)
   ·
    replace c6:=QQ1 c6
    refine Qab (Qaa (Qac (V:=I6 (((i+j)/2:Nat):Int)) rfl (Qaa (QaF (a:=(((i+j)/2:Nat):Int)) (b:=1) (c:=((((i+j)/2)+1:Nat):Int)) rfl rfl (Qak (by omega) (by omega)) (Qaa (Qad (V:=I6 ((((i+j)/2)+1:Nat):Int)) rfl (Qae ?_)))))))
    refine ⟨_,?_,_,((i+j)/2)+1,j,Qal (Qal (Qap (ds:=([10,11,12]++sq 31 23)) (by repeat (first|exact Agr.refl _ _|refine Agr.upd ?_ rfl|refine Agr.mix ?_ rfl))) rfl) rfl,(by omega),(by omega),(by omega),(Or.inr (by rw [Nat.add_sub_cancel];exact c6)),hj2,rfl,hs.take 1⟩
    omega
   replace c6:=QQ2 c6
   refine Qab (Qaa (Qac (V:=I6 (((i+j)/2:Nat):Int)) rfl (Qaa (Qad (V:=I6 (((i+j)/2:Nat):Int)) rfl (Qae ?_)))))
   refine ⟨_,?_,_,i,(i+j)/2,Qal (Qal (Qap (ds:=([10,11,12]++sq 31 23)) (by repeat (first|exact Agr.refl _ _|refine Agr.upd ?_ rfl|refine Agr.mix ?_ rfl))) rfl) rfl,(by omega),(by omega),(by omega),hi2,(Or.inr c6),rfl,hs.take 1⟩
   omega
  replace c3:=QQ2 c3
  refine QaJ (Qag (Qag (Qab (Qaa (Qac (V:=I6 (lo:Int)) rfl (Qaa (Qad (V:=I6 (lo:Int)) rfl (Qae (Qan ?_)))))))))
  have hie:i=j:=by omega
  refine QaD (fun J μ J' w'=>∃ (Jo:Env) (k:Nat) (m:List Cen),J'=upd (mix ([13]++sq 55 22) Jo J) 13 (I6 (k:Int))/\(lo<=k)/\(k+1<=i)/\(m.length=N)/\(Qb4 l m lo (lo+1) (k+1))/\μ=i-k/\Own w S w' [row (.slice a N c) (m.map cec) 106 7]) ?_ ?_
  ·exact ⟨_,_,lo,l,Qal (Qap (ds:=([13]++sq 55 22)) (Agr.refl _ _)) rfl,(Nat.le_refl _),(by omega),hz,(Qb4.refl (by omega) (by omega) (by omega) (Or.inr rfl)),rfl,hs⟩
  rintro μ J' w7 ⟨Jo,k,m,rfl,hk1,hk2,hz1,hro,rfl,hs⟩
  refine Qag (Qag (Qab (Qaa (Qac (V:=I6 (k:Int)) rfl (Qaa (Qac (V:=I6 (i:Int)) rfl (Qaa (Qa5 (a:=(i:Int)) (b:=1) (c:=((i-1:Nat):Int)) rfl rfl (Qak (by omega) (by omega)) (Qaa (Qa2 rfl rfl (Qae (Qam (t:=decide ((k:Int)<((i-1:Nat):Int))) rfl (fun c8=>?_) (fun c8=>?_)))))))))))))
  ·
   replace c8:=QQ1 c8
   refine Qao (Qag (Qan (QaH HM [some 61,some 62,some 63,some 64,some 65,some 66,some 67,some 68,some 69,some 70,some 71,some 72,some 73,some 74,some 75,none,some 76,none] [] [0,0,0,0,8,0,0,64,224,480,0,0,3072,7168,16355,32739,65535,131071] [pv (.slice a N c),pv (I6 (k:Int)),pv (.slice a N c),pv (I6 (k:Int)),pv (I6 ((k+1:Nat):Int)),pv (.slice a N c),pv (I6 (k:Int)),pv (I6 ((k+1:Nat):Int)),pv (.pointer (some ⟨bkS (.slice a N c),ofS (.slice a N c)+((k+1:Nat):Int).toNat*7,none⟩)),pv (.agg (cec (gd m (k+1))).toArray),pv (.slice a N c),pv (I6 (k:Int)),pv (.pointer (some ⟨bkS (.slice a N c),ofS (.slice a N c)+(k:Int).toNat*7,none⟩)),pv (.agg (cec (gd m k)).toArray),pv (.pointer (some ⟨bkS (.slice a N c),ofS (.slice a N c)+(k:Int).toNat*7,none⟩)),pn,pv (.pointer (some ⟨bkS (.slice a N c),ofS (.slice a N c)+((k+1:Nat):Int).toNat*7,none⟩)),pn] (fun D J=>[cond (D 17) (row (.slice a N c) (((m.set k (gd m (k+1))).set (k+1) (gd m k)).map cec) 106 7) (cond (D 15) (row (.slice a N c) ((m.set k (gd m (k+1))).map cec) 106 7) (row (.slice a N c) (m.map cec) 106 7))]) [] (by kernel_rfl) hs ⟨?_,?_,?_,?_,?_,?_,?_,?_,?_,?_,?_,?_,?_,?_,?_,?_,?_,?_,trivial⟩ ?_)))
   ·exact oa [] fun D J w hs=>Qac (V:=.slice a N c) rfl (Zz hs)
   ·exact oa [] fun D J w hs=>Qac (V:=.int .i64 (k:Int)) rfl (Zz hs)
   ·exact oa [] fun D J w hs=>Qac (V:=.slice a N c) rfl (Zz hs)
   ·exact oa [] fun D J w hs=>Qac (V:=.int .i64 (k:Int)) rfl (Zz hs)
   ·exact oa [3] fun D J w hs=>QaF (a:=(k:Int)) (b:=1) (c:=((k+1:Nat):Int)) rfl rfl (Qak (by omega) (by omega)) (Zz hs)
   ·exact oa [] fun D J w hs=>Qac (V:=.slice a N c) rfl (Zz hs)
   ·exact oa [] fun D J w hs=>Qac (V:=.int .i64 (k:Int)) rfl (Zz hs)
   ·exact oa [6] fun D J w hs=>QaF (a:=(k:Int)) (b:=1) (c:=((k+1:Nat):Int)) rfl rfl (Qak (by omega) (by omega)) (Zz hs)
   ·exact ob [5,7] [15,17] rfl rfl fun D J w hs=>Qax QbC QaB.1 (hs.rd 0 rfl) rfl rfl (by omega) (by rw [QQ6];omega) (Zz hs)
   ·exact ob [8] [15,17] rfl rfl fun D J w hs=>Qbb (j:=0) (vs:=cec (gd m (k+1))) (k+1) QaB (hs.rd 0 rfl) (Qba (by omega)) rfl rfl rfl (by omega) (Zz hs)
   ·exact oa [] fun D J w hs=>Qac (V:=.slice a N c) rfl (Zz hs)
   ·exact oa [] fun D J w hs=>Qac (V:=.int .i64 (k:Int)) rfl (Zz hs)
   ·exact ob [10,11] [15,17] rfl rfl fun D J w hs=>Qax QbC QaB.1 (hs.rd 0 rfl) rfl rfl (by omega) (by rw [QQ6];omega) (Zz hs)
   ·exact ob [12] [15,17] rfl rfl fun D J w hs=>Qbb (j:=0) (vs:=cec (gd m k)) k QaB (hs.rd 0 rfl) (Qba (by omega)) rfl rfl rfl (by omega) (Zz hs)
   ·exact ob [0,1] [15,17] rfl rfl fun D J w hs=>Qax QbC QaB.1 (hs.rd 0 rfl) rfl rfl (by omega) (by rw [QQ6];omega) (Zz hs)
   ·exact ob [9,14] [17] rfl rfl fun D J w hs=>QhE (z:=gd m (k+1)) k QaB.1 hs 0 rfl rfl rfl (by first|omega|(simp only [List.length_set];omega)) rfl rfl rfl (Qbj _) fun _ hs=>⟨trivial,hs⟩
   ·exact ob [2,4,15] [17] rfl rfl fun D J w hs=>Qax QbC QaB.1 (hs.rd 0 rfl) rfl rfl (by omega) (by simp only [QQ6,List.length_set];omega) (Zz hs)
   ·exact oa [13,15,16] fun D J w hs=>QhE (z:=gd m k) (k+1) QaB.1 hs 0 rfl rfl rfl (by first|omega|(simp only [List.length_set];omega)) rfl rfl rfl (Qbj _) fun _ hs=>⟨trivial,hs⟩
   rintro J1 w11 J2 hJ hs
   replace hJ:J2=mix (sq 61 16) J1 _:=hJ
   replace hs:Own w S w11 [row (.slice a N c) (((m.set k (gd m (k+1))).set (k+1) (gd m k)).map cec) 106 7]:=hs
   subst hJ
   replace hs:Own w S _ [row (.slice a N c) ((swL m k (k+1)).map cec) 106 7]:=hs.take 1
   refine Qab (Qaa (Qac (V:=I6 (k:Int)) rfl (Qaa (QaF (a:=(k:Int)) (b:=1) (c:=((k+1:Nat):Int)) rfl rfl (Qak (by omega) (by omega)) (Qaa (Qad (V:=I6 ((k+1:Nat):Int)) rfl (Qae ?_)))))))
   refine ⟨_,?_,_,k+1,swL m k (k+1),Qal (Qap (ds:=([13]++sq 55 22)) (by repeat (first|exact Agr.refl _ _|refine Agr.upd ?_ rfl|refine Agr.mix ?_ rfl))) rfl,(by omega),(by omega),(by rw [QhA];exact hz1),(QsP hro (by omega)),rfl,hs.take 1⟩
   omega
  replace c8:=QQ2 c8
  refine QaJ (Qaw ?_)
  refine ⟨_,Qbf Tryz.results157,?_⟩
  have hke:k+1=i:=by omega
  rw [hke] at hro
  exact ⟨m,rfl,hs.take 1,hz1,QtN hc (by rw [show lo+1=mid by omega];exact ho2) (by omega) (by omega) (by omega) hro (by rw [hie];exact hj2) (by rw [show lo+1=mid by omega];exact hi2)⟩
 replace c1:=QQ2 c1
 refine Qao (Qag (Qag (Qab (Qaa (Qac (V:=I6 (hi:Int)) rfl (Qaa (Qac (V:=I6 (mid:Int)) rfl (Qaa (Qa5 (a:=(hi:Int)) (b:=(mid:Int)) (c:=((hi-mid:Nat):Int)) rfl rfl (Qak (by omega) (by omega)) (Qaa (QaZ rfl rfl (Qae (Qam (t:=decide (((hi-mid:Nat):Int)=1)) rfl (fun c12=>?_) (fun c12=>?_))))))))))))))
 ·
  replace c12:=QQ1 c12
  refine Qag (Qab (Qaa (Qac (V:=I6 (lo:Int)) rfl (Qaa (Qad (V:=I6 (lo:Int)) rfl (Qae (Qag (Qab (Qaa (Qac (V:=I6 (mid:Int)) rfl (Qaa (Qad (V:=I6 (mid:Int)) rfl (Qae (Qag (Qan (QaD (fun J μ J' w'=>∃ (Jo:Env) (i:Nat) (j:Nat),J'=upd (upd (mix ([14,15,16]++sq 83 24) Jo J) 14 (I6 (i:Int))) 15 (I6 (j:Int))/\(lo<=i)/\(i<=j)/\(j<=mid)/\(i=lo∨¬cf (gd l mid) (gd l (i-1))<0)/\(j=mid∨cf (gd l mid) (gd l j)<0)/\μ=j-i/\Own w S w' [row (.slice a N c) (l.map cec) 106 7]) ?_ ?_))))))))))))))))
  ·exact ⟨_,_,lo,mid,Qal (Qal (Qap (ds:=([14,15,16]++sq 83 24)) (Agr.refl _ _)) rfl) rfl,(Nat.le_refl _),(by omega),(Nat.le_refl _),(Or.inl rfl),(Or.inl rfl),rfl,hs⟩
  rintro μ J' w13 ⟨Jo,i,j,rfl,hi1,hij,hj1,hi2,hj2,rfl,hs⟩
  refine Qag (Qag (Qab (Qaa (Qac (V:=I6 (i:Int)) rfl (Qaa (Qac (V:=I6 (j:Int)) rfl (Qaa (Qa2 rfl rfl (Qae (Qam (t:=decide ((i:Int)<(j:Int))) rfl (fun c14=>?_) (fun c14=>?_)))))))))))
  ·
   replace c14:=QQ1 c14
   refine Qao (Qan (Qag (Qab (Qaa (Qac (V:=I6 (i:Int)) rfl (Qaa (Qac (V:=I6 (j:Int)) rfl (Qaa (QaF (a:=(i:Int)) (b:=(j:Int)) (c:=((i+j:Nat):Int)) rfl rfl (Qak (by omega) (by omega)) (Qaa (Qcl QhS Qdm rfl (QdO (by omega) (by omega)) (Qaa (Qg8 rfl rfl (Qaa (Qcl Qdm QhS rfl (QbE (by omega) (by omega)) (Qaa (Qad (V:=I6 (((i+j)/2:Nat):Int)) rfl (Qae (Qag (QaH HM [some 92,some 93,some 94,some 95,some 96,some 97,some 98,some 99,some 100,some 101,some 102,some 103] [] [0,0,0,6,14,0,0,96,224,511,1023,2047] [pv (.func (.func g) #[] #[]),pv (.slice a N c),pv (I6 (mid:Int)),pv (.pointer (some ⟨bkS (.slice a N c),ofS (.slice a N c)+(mid:Int).toNat*7,none⟩)),pv (.agg (cec (gd l mid)).toArray),pv (.slice a N c),pv (I6 (((i+j)/2:Nat):Int)),pv (.pointer (some ⟨bkS (.slice a N c),ofS (.slice a N c)+(((i+j)/2:Nat):Int).toNat*7,none⟩)),pv (.agg (cec (gd l ((i+j)/2))).toArray),pv (I6 (cf (gd l mid) (gd l ((i+j)/2)))),pv (.bool (decide (cf (gd l mid) (gd l ((i+j)/2))<0))),pv (.bool (!decide (cf (gd l mid) (gd l ((i+j)/2))<0)))] (fun _ _=>_) [11] (by kernel_rfl) hs ⟨?_,?_,?_,?_,?_,?_,?_,?_,?_,?_,?_,?_,trivial⟩ ?_))))))))))))))))))))
   ·exact oa [] fun D J w hs=>Qac (V:=.func (.func g) #[] #[]) rfl (Zz hs)
   ·exact oa [] fun D J w hs=>Qac (V:=.slice a N c) rfl (Zz hs)
   ·exact oa [] fun D J w hs=>Qac (V:=.int .i64 (mid:Int)) rfl (Zz hs)
   ·exact oa [1,2] fun D J w hs=>Qax QbC QaB.1 (hs.rd 0 rfl) rfl rfl (by omega) (by rw [QQ6];omega) (Zz hs)
   ·exact oa [3] fun D J w hs=>Qbb (j:=0) (vs:=cec (gd l mid)) mid QaB (hs.rd 0 rfl) (Qba (by omega)) rfl rfl rfl (by omega) (Zz hs)
   ·exact oa [] fun D J w hs=>Qac (V:=.slice a N c) rfl (Zz hs)
   ·exact oa [] fun D J w hs=>Qac (V:=.int .i64 (((i+j)/2:Nat):Int)) rfl (Zz hs)
   ·exact oa [5,6] fun D J w hs=>Qax QbC QaB.1 (hs.rd 0 rfl) rfl rfl (by omega) (by rw [QQ6];omega) (Zz hs)
   ·exact oa [7] fun D J w hs=>Qbb (j:=0) (vs:=cec (gd l ((i+j)/2))) ((i+j)/2) QaB (hs.rd 0 rfl) (Qba (by omega)) rfl rfl rfl (by omega) (Zz hs)
   ·exact oa [0,4,8] fun D J w hs=>Qfo (vs:=[.agg (cec (gd l mid)).toArray,.agg (cec (gd l ((i+j)/2))).toArray]) (cs:=[]) (V:=.int .i64 (cf (gd l mid) (gd l ((i+j)/2)))) hg rfl rfl (hcmp _ (gd l mid) (gd l ((i+j)/2))) hs fun _ hs=>Zz hs
   ·exact oa [9] fun D J w hs=>Qa2 rfl rfl (Zz hs)
   ·exact oa [10] fun D J w hs=>Qbz rfl (Zz hs)
   rintro J1 w16 J2 hJ hs
   replace hJ:J2=upd (mix (sq 92 12) J1 _) 103 (.bool (!decide (cf (gd l mid) (gd l ((i+j)/2))<0))):=hJ
   subst hJ
   refine Qam (t:=!decide (cf (gd l mid) (gd l ((i+j)/2))<0)) rfl (fun c17=>?_) (fun c17=>?_)
   ·
    replace c17:=Qby c17
    replace c17:=QQ2 c17
    refine Qab (Qaa (Qac (V:=I6 (((i+j)/2:Nat):Int)) rfl (Qaa (QaF (a:=(((i+j)/2:Nat):Int)) (b:=1) (c:=((((i+j)/2)+1:Nat):Int)) rfl rfl (Qak (by omega) (by omega)) (Qaa (Qad (V:=I6 ((((i+j)/2)+1:Nat):Int)) rfl (Qae ?_)))))))
    refine ⟨_,?_,_,((i+j)/2)+1,j,Qal (Qal (Qap (ds:=([14,15,16]++sq 83 24)) (by repeat (first|exact Agr.refl _ _|refine Agr.upd ?_ rfl|refine Agr.mix ?_ rfl))) rfl) rfl,(by omega),(by omega),(by omega),(Or.inr (by rw [Nat.add_sub_cancel];exact c17)),hj2,rfl,hs.take 1⟩
    omega
   replace c17:=Qbu c17
   replace c17:=QQ1 c17
   refine Qab (Qaa (Qac (V:=I6 (((i+j)/2:Nat):Int)) rfl (Qaa (Qad (V:=I6 (((i+j)/2:Nat):Int)) rfl (Qae ?_)))))
   refine ⟨_,?_,_,i,(i+j)/2,Qal (Qal (Qap (ds:=([14,15,16]++sq 83 24)) (by repeat (first|exact Agr.refl _ _|refine Agr.upd ?_ rfl|refine Agr.mix ?_ rfl))) rfl) rfl,(by omega),(by omega),(by omega),hi2,(Or.inr c17),rfl,hs.take 1⟩
   omega
  replace c14:=QQ2 c14
  refine QaJ (Qag (Qag (Qab (Qaa (Qac (V:=I6 (mid:Int)) rfl (Qaa (Qad (V:=I6 (mid:Int)) rfl (Qae (Qan ?_)))))))))
  have hie:i=j:=by omega
  refine QaD (fun J μ J' w'=>∃ (Jo:Env) (k:Nat) (m:List Cen),J'=upd (mix ([17]++sq 108 21) Jo J) 17 (I6 (k:Int))/\(i<=k)/\(k<=mid)/\(m.length=N)/\(Qb4 l m k mid (mid+1))/\μ=k+1/\Own w S w' [row (.slice a N c) (m.map cec) 106 7]) ?_ ?_
  ·exact ⟨_,_,mid,l,Qal (Qap (ds:=([17]++sq 108 21)) (Agr.refl _ _)) rfl,(by omega),(Nat.le_refl _),hz,(Qb4.refl (by omega) (by omega) (by omega) (Or.inl rfl)),rfl,hs⟩
  rintro μ J' w18 ⟨Jo,k,m,rfl,hk1,hk2,hz1,hro,rfl,hs⟩
  refine Qag (Qag (Qab (Qaa (Qac (V:=I6 (k:Int)) rfl (Qaa (Qac (V:=I6 (i:Int)) rfl (Qaa (Qb2 rfl rfl (Qae (Qam (t:=decide ((i:Int)<(k:Int))) rfl (fun c19=>?_) (fun c19=>?_)))))))))))
  ·
   replace c19:=QQ1 c19
   refine Qao (Qag (Qan (QaH HM [some 113,some 114,some 115,some 116,some 117,some 118,some 119,some 120,some 121,some 122,some 123,some 124,some 125,some 126,some 127,none,some 128,none] [] [0,0,0,0,8,0,0,64,224,480,0,0,3072,7168,16355,32739,65535,131071] [pv (.slice a N c),pv (I6 (k:Int)),pv (.slice a N c),pv (I6 (k:Int)),pv (I6 ((k-1:Nat):Int)),pv (.slice a N c),pv (I6 (k:Int)),pv (I6 ((k-1:Nat):Int)),pv (.pointer (some ⟨bkS (.slice a N c),ofS (.slice a N c)+((k-1:Nat):Int).toNat*7,none⟩)),pv (.agg (cec (gd m (k-1))).toArray),pv (.slice a N c),pv (I6 (k:Int)),pv (.pointer (some ⟨bkS (.slice a N c),ofS (.slice a N c)+(k:Int).toNat*7,none⟩)),pv (.agg (cec (gd m k)).toArray),pv (.pointer (some ⟨bkS (.slice a N c),ofS (.slice a N c)+(k:Int).toNat*7,none⟩)),pn,pv (.pointer (some ⟨bkS (.slice a N c),ofS (.slice a N c)+((k-1:Nat):Int).toNat*7,none⟩)),pn] (fun D J=>[cond (D 17) (row (.slice a N c) (((m.set k (gd m (k-1))).set (k-1) (gd m k)).map cec) 106 7) (cond (D 15) (row (.slice a N c) ((m.set k (gd m (k-1))).map cec) 106 7) (row (.slice a N c) (m.map cec) 106 7))]) [] (by kernel_rfl) hs ⟨?_,?_,?_,?_,?_,?_,?_,?_,?_,?_,?_,?_,?_,?_,?_,?_,?_,?_,trivial⟩ ?_)))
   ·exact oa [] fun D J w hs=>Qac (V:=.slice a N c) rfl (Zz hs)
   ·exact oa [] fun D J w hs=>Qac (V:=.int .i64 (k:Int)) rfl (Zz hs)
   ·exact oa [] fun D J w hs=>Qac (V:=.slice a N c) rfl (Zz hs)
   ·exact oa [] fun D J w hs=>Qac (V:=.int .i64 (k:Int)) rfl (Zz hs)
   ·exact oa [3] fun D J w hs=>Qa5 (a:=(k:Int)) (b:=1) (c:=((k-1:Nat):Int)) rfl rfl (Qak (by omega) (by omega)) (Zz hs)
   ·exact oa [] fun D J w hs=>Qac (V:=.slice a N c) rfl (Zz hs)
   ·exact oa [] fun D J w hs=>Qac (V:=.int .i64 (k:Int)) rfl (Zz hs)
   ·exact oa [6] fun D J w hs=>Qa5 (a:=(k:Int)) (b:=1) (c:=((k-1:Nat):Int)) rfl rfl (Qak (by omega) (by omega)) (Zz hs)
   ·exact ob [5,7] [15,17] rfl rfl fun D J w hs=>Qax QbC QaB.1 (hs.rd 0 rfl) rfl rfl (by omega) (by rw [QQ6];omega) (Zz hs)
   ·exact ob [8] [15,17] rfl rfl fun D J w hs=>Qbb (j:=0) (vs:=cec (gd m (k-1))) (k-1) QaB (hs.rd 0 rfl) (Qba (by omega)) rfl rfl rfl (by omega) (Zz hs)
   ·exact oa [] fun D J w hs=>Qac (V:=.slice a N c) rfl (Zz hs)
   ·exact oa [] fun D J w hs=>Qac (V:=.int .i64 (k:Int)) rfl (Zz hs)
   ·exact ob [10,11] [15,17] rfl rfl fun D J w hs=>Qax QbC QaB.1 (hs.rd 0 rfl) rfl rfl (by omega) (by rw [QQ6];omega) (Zz hs)
   ·exact ob [12] [15,17] rfl rfl fun D J w hs=>Qbb (j:=0) (vs:=cec (gd m k)) k QaB (hs.rd 0 rfl) (Qba (by omega)) rfl rfl rfl (by omega) (Zz hs)
   ·exact ob [0,1] [15,17] rfl rfl fun D J w hs=>Qax QbC QaB.1 (hs.rd 0 rfl) rfl rfl (by omega) (by rw [QQ6];omega) (Zz hs)
   ·exact ob [9,14] [17] rfl rfl fun D J w hs=>QhE (z:=gd m (k-1)) k QaB.1 hs 0 rfl rfl rfl (by first|omega|(simp only [List.length_set];omega)) rfl rfl rfl (Qbj _) fun _ hs=>⟨trivial,hs⟩
   ·exact ob [2,4,15] [17] rfl rfl fun D J w hs=>Qax QbC QaB.1 (hs.rd 0 rfl) rfl rfl (by omega) (by simp only [QQ6,List.length_set];omega) (Zz hs)
   ·exact oa [13,15,16] fun D J w hs=>QhE (z:=gd m k) (k-1) QaB.1 hs 0 rfl rfl rfl (by first|omega|(simp only [List.length_set];omega)) rfl rfl rfl (Qbj _) fun _ hs=>⟨trivial,hs⟩
   rintro J1 w22 J2 hJ hs
   replace hJ:J2=mix (sq 113 16) J1 _:=hJ
   replace hs:Own w S w22 [row (.slice a N c) (((m.set k (gd m (k-1))).set (k-1) (gd m k)).map cec) 106 7]:=hs
   subst hJ
   replace hs:Own w S _ [row (.slice a N c) ((swL m k (k-1)).map cec) 106 7]:=hs.take 1
   refine Qab (Qaa (Qac (V:=I6 (k:Int)) rfl (Qaa (Qa5 (a:=(k:Int)) (b:=1) (c:=((k-1:Nat):Int)) rfl rfl (Qak (by omega) (by omega)) (Qaa (Qad (V:=I6 ((k-1:Nat):Int)) rfl (Qae ?_)))))))
   refine ⟨_,?_,_,k-1,swL m k (k-1),Qal (Qap (ds:=([17]++sq 108 21)) (by repeat (first|exact Agr.refl _ _|refine Agr.upd ?_ rfl|refine Agr.mix ?_ rfl))) rfl,(by omega),(by omega),(by rw [QhA];exact hz1),(QpG hro (by omega)),rfl,hs.take 1⟩
   omega
  replace c19:=QQ2 c19
  refine QaJ (Qaw ?_)
  refine ⟨_,Qbf Tryz.results157,?_⟩
  have hke:k=i:=by omega
  rw [hke] at hro
  have hm:=Qoq hc ho1 hi1 (by omega) (by omega) hro hi2 (by rw [hie];exact hj2)
  rw [show mid+1=hi by omega] at hm
  exact ⟨m,rfl,hs.take 1,hz1,hm⟩
 replace c12:=QQ2 c12
 refine Qao (Qag (Qab (Qaa (Qac (V:=I6 (lo:Int)) rfl (Qaa (Qac (V:=I6 (hi:Int)) rfl (Qaa (QaF (a:=(lo:Int)) (b:=(hi:Int)) (c:=((lo+hi:Nat):Int)) rfl rfl (Qak (by omega) (by omega)) (Qaa (Qcl QhS Qdm rfl (QdO (by omega) (by omega)) (Qaa (Qg8 rfl rfl (Qaa (Qcl Qdm QhS rfl (QbE (by omega) (by omega)) (Qaa (Qad (V:=I6 (((lo+hi)/2:Nat):Int)) rfl (Qae (Qag (Qab (Qaa (Qac (V:=I6 (((lo+hi)/2:Nat):Int)) rfl (Qaa (Qac (V:=I6 (mid:Int)) rfl (Qaa (QaF (a:=(((lo+hi)/2:Nat):Int)) (b:=(mid:Int)) (c:=((((lo+hi)/2)+mid:Nat):Int)) rfl rfl (Qak (by omega) (by omega)) (Qaa (Qad (V:=I6 ((((lo+hi)/2)+mid:Nat):Int)) rfl (Qae (Qag (Qab (Qaa (Qad (V:=I6 0) rfl (Qaa (Qad (V:=I6 0) rfl (Qae (Qag (Qag (Qab (Qaa (Qac (V:=I6 (mid:Int)) rfl (Qaa (Qac (V:=I6 (((lo+hi)/2:Nat):Int)) rfl (Qaa (Qb2 rfl rfl (Qae (QfE (fun J J' w'=>∃ (Jo:Env) (s0:Nat) (r0:Nat),J'=upd (upd (mix ([20,21]++sq 141 6) Jo J) 20 (I6 (s0:Int))) 21 (I6 (r0:Int))/\(lo<=s0)/\(s0<=r0)/\(r0<=mid)/\(r0<=(lo+hi)/2)/\((lo+hi)/2+mid<=hi+s0)/\(s0=lo∨(lo+hi)/2+mid=hi+s0)/\(r0=mid∨r0=(lo+hi)/2)/\Own w S w' [row (.slice a N c) (l.map cec) 106 7]) ?_ ?_))))))))))))))))))))))))))))))))))))))))))))))
 ·
  refine Qam (t:=decide ((((lo+hi)/2:Nat):Int)<(mid:Int))) rfl (fun c23=>?_) (fun c23=>?_)
  ·
   replace c23:=QQ1 c23
   refine Qag (Qab (Qaa (Qac (V:=I6 ((((lo+hi)/2)+mid:Nat):Int)) rfl (Qaa (Qac (V:=I6 (hi:Int)) rfl (Qaa (Qa5 (a:=((((lo+hi)/2)+mid:Nat):Int)) (b:=(hi:Int)) (c:=(((((lo+hi)/2)+mid)-hi:Nat):Int)) rfl rfl (Qak (by omega) (by omega)) (Qaa (Qad (V:=I6 (((((lo+hi)/2)+mid)-hi:Nat):Int)) rfl (Qae (Qab (Qaa (Qac (V:=I6 (((lo+hi)/2:Nat):Int)) rfl (Qaa (Qad (V:=I6 (((lo+hi)/2:Nat):Int)) rfl (Qae ?_))))))))))))))))
   exact ⟨_,(((lo+hi)/2)+mid)-hi,(lo+hi)/2,Qal (Qal (Qap (ds:=([20,21]++sq 141 6)) (by repeat (first|exact Agr.refl _ _|refine Agr.upd ?_ rfl|refine Agr.mix ?_ rfl))) rfl) rfl,(by omega),(by omega),(by omega),(by omega),(by omega),(by omega),(by omega),hs.take 1⟩
  replace c23:=QQ2 c23
  refine Qag (Qab (Qaa (Qac (V:=I6 (lo:Int)) rfl (Qaa (Qad (V:=I6 (lo:Int)) rfl (Qae (Qab (Qaa (Qac (V:=I6 (mid:Int)) rfl (Qaa (Qad (V:=I6 (mid:Int)) rfl (Qae ?_))))))))))))
  exact ⟨_,lo,mid,Qal (Qal (Qap (ds:=([20,21]++sq 141 6)) (by repeat (first|exact Agr.refl _ _|refine Agr.upd ?_ rfl|refine Agr.mix ?_ rfl))) rfl) rfl,(by omega),(by omega),(by omega),(by omega),(by omega),(by omega),(by omega),hs.take 1⟩
 rintro J' w24 ⟨Jo,s0,r0,rfl,q1,q2,q3,q4,q5,q6,q7,hs⟩
 refine Qag (Qab (Qaa (Qac (V:=I6 ((((lo+hi)/2)+mid:Nat):Int)) rfl (Qaa (Qa5 (a:=((((lo+hi)/2)+mid:Nat):Int)) (b:=1) (c:=(((((lo+hi)/2)+mid)-1:Nat):Int)) rfl rfl (Qak (by omega) (by omega)) (Qaa (Qad (V:=I6 (((((lo+hi)/2)+mid)-1:Nat):Int)) rfl (Qae (Qag (Qan (QaD (fun J μ J' w'=>∃ (Jo:Env) (s:Nat) (r:Nat),J'=upd (upd (mix ([20,21,23]++sq 149 26) Jo J) 20 (I6 (s:Int))) 21 (I6 (r:Int))/\(s0<=s)/\(s<=r)/\(r<=r0)/\(s=s0∨¬cf (gd l ((lo+hi)/2+mid-1-(s-1))) (gd l (s-1))<0)/\(r=r0∨cf (gd l ((lo+hi)/2+mid-1-r)) (gd l r)<0)/\μ=r-s/\Own w S w' [row (.slice a N c) (l.map cec) 106 7]) ?_ ?_)))))))))))
 ·exact ⟨_,_,s0,r0,Qal (Qal (Qap (ds:=([20,21,23]++sq 149 26)) (Agr.refl _ _)) rfl) rfl,(Nat.le_refl _),(by omega),(Nat.le_refl _),(Or.inl rfl),(Or.inl rfl),rfl,hs⟩
 rintro μ J' w25 ⟨Jo,s,r,rfl,hs1,hsr,hr1,hs2,hr2,rfl,hs⟩
 refine Qag (Qag (Qab (Qaa (Qac (V:=I6 (s:Int)) rfl (Qaa (Qac (V:=I6 (r:Int)) rfl (Qaa (Qa2 rfl rfl (Qae (Qam (t:=decide ((s:Int)<(r:Int))) rfl (fun c26=>?_) (fun c26=>?_)))))))))))
 ·
  replace c26:=QQ1 c26
  refine Qao (Qan (Qag (Qab (Qaa (Qac (V:=I6 (s:Int)) rfl (Qaa (Qac (V:=I6 (r:Int)) rfl (Qaa (QaF (a:=(s:Int)) (b:=(r:Int)) (c:=((s+r:Nat):Int)) rfl rfl (Qak (by omega) (by omega)) (Qaa (Qcl QhS Qdm rfl (QdO (by omega) (by omega)) (Qaa (Qg8 rfl rfl (Qaa (Qcl Qdm QhS rfl (QbE (by omega) (by omega)) (Qaa (Qad (V:=I6 (((s+r)/2:Nat):Int)) rfl (Qae (Qag (QaH HM [some 158,some 159,some 160,some 161,some 162,some 163,some 164,some 165,some 166,some 167,some 168,some 169,some 170,some 171] [] [0,0,0,0,12,30,62,0,0,384,896,2047,4095,8191] [pv (.func (.func g) #[] #[]),pv (.slice a N c),pv (I6 (((((lo+hi)/2)+mid)-1:Nat):Int)),pv (I6 (((s+r)/2:Nat):Int)),pv (I6 ((((((lo+hi)/2)+mid)-1)-((s+r)/2):Nat):Int)),pv (.pointer (some ⟨bkS (.slice a N c),ofS (.slice a N c)+((((((lo+hi)/2)+mid)-1)-((s+r)/2):Nat):Int).toNat*7,none⟩)),pv (.agg (cec (gd l (((((lo+hi)/2)+mid)-1)-((s+r)/2)))).toArray),pv (.slice a N c),pv (I6 (((s+r)/2:Nat):Int)),pv (.pointer (some ⟨bkS (.slice a N c),ofS (.slice a N c)+(((s+r)/2:Nat):Int).toNat*7,none⟩)),pv (.agg (cec (gd l ((s+r)/2))).toArray),pv (I6 (cf (gd l (((((lo+hi)/2)+mid)-1)-((s+r)/2))) (gd l ((s+r)/2)))),pv (.bool (decide (cf (gd l (((((lo+hi)/2)+mid)-1)-((s+r)/2))) (gd l ((s+r)/2))<0))),pv (.bool (!decide (cf (gd l (((((lo+hi)/2)+mid)-1)-((s+r)/2))) (gd l ((s+r)/2))<0)))] (fun _ _=>_) [13] (by kernel_rfl) hs ⟨?_,?_,?_,?_,?_,?_,?_,?_,?_,?_,?_,?_,?_,?_,trivial⟩ ?_))))))))))))))))))))
  ·exact oa [] fun D J w hs=>Qac (V:=.func (.func g) #[] #[]) rfl (Zz hs)
  ·exact oa [] fun D J w hs=>Qac (V:=.slice a N c) rfl (Zz hs)
  ·exact oa [] fun D J w hs=>Qac (V:=.int .i64 (((((lo+hi)/2)+mid)-1:Nat):Int)) rfl (Zz hs)
  ·exact oa [] fun D J w hs=>Qac (V:=.int .i64 (((s+r)/2:Nat):Int)) rfl (Zz hs)
  ·exact oa [2,3] fun D J w hs=>Qa5 (a:=(((((lo+hi)/2)+mid)-1:Nat):Int)) (b:=(((s+r)/2:Nat):Int)) (c:=((((((lo+hi)/2)+mid)-1)-((s+r)/2):Nat):Int)) rfl rfl (Qak (by omega) (by omega)) (Zz hs)
  ·exact oa [1,4] fun D J w hs=>Qax QbC QaB.1 (hs.rd 0 rfl) rfl rfl (by omega) (by rw [QQ6];omega) (Zz hs)
  ·exact oa [5] fun D J w hs=>Qbb (j:=0) (vs:=cec (gd l (((((lo+hi)/2)+mid)-1)-((s+r)/2)))) (((((lo+hi)/2)+mid)-1)-((s+r)/2)) QaB (hs.rd 0 rfl) (Qba (by omega)) rfl rfl rfl (by omega) (Zz hs)
  ·exact oa [] fun D J w hs=>Qac (V:=.slice a N c) rfl (Zz hs)
  ·exact oa [] fun D J w hs=>Qac (V:=.int .i64 (((s+r)/2:Nat):Int)) rfl (Zz hs)
  ·exact oa [7,8] fun D J w hs=>Qax QbC QaB.1 (hs.rd 0 rfl) rfl rfl (by omega) (by rw [QQ6];omega) (Zz hs)
  ·exact oa [9] fun D J w hs=>Qbb (j:=0) (vs:=cec (gd l ((s+r)/2))) ((s+r)/2) QaB (hs.rd 0 rfl) (Qba (by omega)) rfl rfl rfl (by omega) (Zz hs)
  ·exact oa [0,6,10] fun D J w hs=>Qfo (vs:=[.agg (cec (gd l (((((lo+hi)/2)+mid)-1)-((s+r)/2)))).toArray,.agg (cec (gd l ((s+r)/2))).toArray]) (cs:=[]) (V:=.int .i64 (cf (gd l (((((lo+hi)/2)+mid)-1)-((s+r)/2))) (gd l ((s+r)/2)))) hg rfl rfl (hcmp _ (gd l (((((lo+hi)/2)+mid)-1)-((s+r)/2))) (gd l ((s+r)/2))) hs fun _ hs=>Zz hs
  ·exact oa [11] fun D J w hs=>Qa2 rfl rfl (Zz hs)
  ·exact oa [12] fun D J w hs=>Qbz rfl (Zz hs)
  rintro J1 w28 J2 hJ hs
  replace hJ:J2=upd (mix (sq 158 14) J1 _) 171 (.bool (!decide (cf (gd l (((((lo+hi)/2)+mid)-1)-((s+r)/2))) (gd l ((s+r)/2))<0))):=hJ
  subst hJ
  refine Qam (t:=!decide (cf (gd l (((((lo+hi)/2)+mid)-1)-((s+r)/2))) (gd l ((s+r)/2))<0)) rfl (fun c29=>?_) (fun c29=>?_)
  ·
   replace c29:=Qby c29
   replace c29:=QQ2 c29
   refine Qab (Qaa (Qac (V:=I6 (((s+r)/2:Nat):Int)) rfl (Qaa (QaF (a:=(((s+r)/2:Nat):Int)) (b:=1) (c:=((((s+r)/2)+1:Nat):Int)) rfl rfl (Qak (by omega) (by omega)) (Qaa (Qad (V:=I6 ((((s+r)/2)+1:Nat):Int)) rfl (Qae ?_)))))))
   refine ⟨_,?_,_,((s+r)/2)+1,r,Qal (Qal (Qap (ds:=([20,21,23]++sq 149 26)) (by repeat (first|exact Agr.refl _ _|refine Agr.upd ?_ rfl|refine Agr.mix ?_ rfl))) rfl) rfl,(by omega),(by omega),(by omega),(Or.inr (by rw [Nat.add_sub_cancel];exact c29)),hr2,rfl,hs.take 1⟩
   omega
  replace c29:=Qbu c29
  replace c29:=QQ1 c29
  refine Qab (Qaa (Qac (V:=I6 (((s+r)/2:Nat):Int)) rfl (Qaa (Qad (V:=I6 (((s+r)/2:Nat):Int)) rfl (Qae ?_)))))
  refine ⟨_,?_,_,s,(s+r)/2,Qal (Qal (Qap (ds:=([20,21,23]++sq 149 26)) (by repeat (first|exact Agr.refl _ _|refine Agr.upd ?_ rfl|refine Agr.mix ?_ rfl))) rfl) rfl,(by omega),(by omega),(by omega),hs2,(Or.inr c29),rfl,hs.take 1⟩
  omega
 replace c26:=QQ2 c26
 refine QaJ (Qag (Qab (Qaa (Qac (V:=I6 ((((lo+hi)/2)+mid:Nat):Int)) rfl (Qaa (Qac (V:=I6 (s:Int)) rfl (Qaa (Qa5 (a:=((((lo+hi)/2)+mid:Nat):Int)) (b:=(s:Int)) (c:=(((((lo+hi)/2)+mid)-s:Nat):Int)) rfl rfl (Qak (by omega) (by omega)) (Qaa (Qad (V:=I6 (((((lo+hi)/2)+mid)-s:Nat):Int)) rfl (Qae (Qag (Qag (Qbw [some 178,some 179,some 180,some 181,some 182,some 183,some 184,some 185] [] [0,0,3,7,15,15,63,127] [pv (I6 (s:Int)),pv (I6 (mid:Int)),pv (.bool (decide ((s:Int)<(mid:Int)))),pv (.bool (decide ((s:Int)<(mid:Int)))),pg ((decide ((s:Int)<(mid:Int))) == true) (I6 (mid:Int)),pg ((decide ((s:Int)<(mid:Int))) == true) (I6 (((((lo+hi)/2)+mid)-s:Nat):Int)),pg ((decide ((s:Int)<(mid:Int))) == true) (.bool (decide ((mid:Int)<(((((lo+hi)/2)+mid)-s:Nat):Int)))),pv (.bool ((decide ((s:Int)<(mid:Int)))&&(decide ((mid:Int)<(((((lo+hi)/2)+mid)-s:Nat):Int)))))] (fun _ _=>_) [7] (by kernel_rfl) hs ⟨?_,?_,?_,?_,?_,?_,?_,?_,trivial⟩ ?_))))))))))))))
 ·exact oa [] fun D J w hs=>Qac (V:=.int .i64 (s:Int)) rfl (Zz hs)
 ·exact oa [] fun D J w hs=>Qac (V:=.int .i64 (mid:Int)) rfl (Zz hs)
 ·exact oa [0,1] fun D J w hs=>Qa2 rfl rfl (Zz hs)
 ·exact oa [2] fun D J w hs=>Qac (V:=.bool (decide ((s:Int)<(mid:Int)))) rfl (Zz hs)
 ·exact og [3] fun D J w hG hs=>Qac (V:=.int .i64 (mid:Int)) rfl (Zz hs)
 ·exact og [3] fun D J w hG hs=>Qac (V:=.int .i64 (((((lo+hi)/2)+mid)-s:Nat):Int)) rfl (Zz hs)
 ·exact oy [3,4,5] [4,5] fun D J w hG hs=>Qa2 rfl rfl (Zz hs)
 ·exact oa [3,6] fun D J w hs=>Qbn (h':=decide ((mid:Int)<(((((lo+hi)/2)+mid)-s:Nat):Int))) rfl rfl rfl (Zz hs)
 rintro J1 w30 J2 hJ hs
 replace hJ:J2=upd (mix (sq 178 8) J1 _) 185 (.bool ((decide ((s:Int)<(mid:Int)))&&(decide ((mid:Int)<(((((lo+hi)/2)+mid)-s:Nat):Int))))):=hJ
 subst hJ
 have hse:s=r:=by omega
 rw [← hse] at hr2
 have hg1:=Qt0 (lo:=lo) (hi:=hi) (e:=(lo+hi)/2+mid-s) hs2 q6 hs1 rfl
 have hg2:=Qs6 (md:=(lo+hi)/2) (e:=(lo+hi)/2+mid-s) hr2 q7 rfl rfl (by omega)
 refine QfE (fun J J' w'=>∃ (Jo:Env) (m1:List Cen),J'=mix (sq 186 6) Jo J/\(m1.length=N)/\(Qb4 l m1 s mid ((lo+hi)/2+mid-s))/\Own w S w' [row (.slice a N c) (m1.map cec) 106 7]) ?_ ?_
 ·
  refine Qam (t:=(decide ((s:Int)<(mid:Int)))&&(decide ((mid:Int)<(((((lo+hi)/2)+mid)-s:Nat):Int)))) rfl (fun c31=>?_) (fun c31=>?_)
  ·
   have c31r:=Qcy c31
   replace c31:=Qb3 c31
   replace c31:=QQ1 c31
   replace c31r:=QQ1 c31r
   refine Qab (Qaa (Qac (V:=.slice a N c) rfl (Qaa (Qac (V:=I6 (s:Int)) rfl (Qaa (Qac (V:=I6 (mid:Int)) rfl (Qaa (Qac (V:=I6 (((((lo+hi)/2)+mid)-s:Nat):Int)) rfl (Qaa (Qac (V:=.func (.func g) #[] #[]) rfl (Qaa (Qbr (α:=List Cen) (vs:=[.slice a N c,I6 (s:Int),I6 (mid:Int),I6 (((((lo+hi)/2)+mid)-s:Nat):Int),.func (.func g) #[] #[]]) (V:=fun _=>.tuple #[]) (R:=row (.slice a N c) (l.map cec) 106 7) (R':=fun x=>row (.slice a N c) (x.map cec) 106 7) (Lo:=fun _=>[]) (F:=fun x _=>x.length=N/\Qb4 l x s mid ((((lo+hi)/2)+mid)-s)) QsX rfl rfl hs 0 rfl (fun S hS hlt=>Qsz _ S a N c l hz hN s mid ((((lo+hi)/2)+mid)-s) (by omega) (by omega) (by omega) g hg cf hc hcmp hS hlt) fun mz32 w33 hs hF34=>(Qae ?_)))))))))))))
   exact ⟨_,mz32,Qap (ds:=(sq 186 6)) (by repeat (first|exact Agr.refl _ _|refine Agr.upd ?_ rfl|refine Agr.mix ?_ rfl)),hF34.1,hF34.2,hs.take 1⟩
  refine Qao ?_
  exact ⟨_,l,Qap (ds:=(sq 186 6)) (by repeat (first|exact Agr.refl _ _|refine Agr.upd ?_ rfl|refine Agr.mix ?_ rfl)),hz,(Qb4.refl (by omega) (by omega) (by omega) (by
 have ht:=c31
 rcases Nat.lt_or_ge s mid with q|q
 ·right;simp [q] at ht;omega
 ·left;omega)),hs.take 1⟩
 rintro J' w35 ⟨Jo,m1,rfl,hz1,hro,hs⟩
 have hmd:s+((lo+hi)/2+mid-s-mid)=(lo+hi)/2:=by omega
 have hh:=Qfj hc ho1 ho2 (by omega) (by omega) (by omega) (by omega) hro hg1 hg2
 rw [hmd] at hh
 obtain ⟨k1,k2,k3,k4,k5⟩:=hh
 refine Qag (Qag (Qbw [some 192,some 193,some 194,some 195,some 196,some 197,some 198,some 199] [] [0,0,3,7,15,15,63,127] [pv (I6 (lo:Int)),pv (I6 (s:Int)),pv (.bool (decide ((lo:Int)<(s:Int)))),pv (.bool (decide ((lo:Int)<(s:Int)))),pg ((decide ((lo:Int)<(s:Int))) == true) (I6 (s:Int)),pg ((decide ((lo:Int)<(s:Int))) == true) (I6 (((lo+hi)/2:Nat):Int)),pg ((decide ((lo:Int)<(s:Int))) == true) (.bool (decide ((s:Int)<(((lo+hi)/2:Nat):Int)))),pv (.bool ((decide ((lo:Int)<(s:Int)))&&(decide ((s:Int)<(((lo+hi)/2:Nat):Int)))))] (fun _ _=>_) [7] (by kernel_rfl) hs ⟨?_,?_,?_,?_,?_,?_,?_,?_,trivial⟩ ?_))
 ·exact oa [] fun D J w hs=>Qac (V:=.int .i64 (lo:Int)) rfl (Zz hs)
 ·exact oa [] fun D J w hs=>Qac (V:=.int .i64 (s:Int)) rfl (Zz hs)
 ·exact oa [0,1] fun D J w hs=>Qa2 rfl rfl (Zz hs)
 ·exact oa [2] fun D J w hs=>Qac (V:=.bool (decide ((lo:Int)<(s:Int)))) rfl (Zz hs)
 ·exact og [3] fun D J w hG hs=>Qac (V:=.int .i64 (s:Int)) rfl (Zz hs)
 ·exact og [3] fun D J w hG hs=>Qac (V:=.int .i64 (((lo+hi)/2:Nat):Int)) rfl (Zz hs)
 ·exact oy [3,4,5] [4,5] fun D J w hG hs=>Qa2 rfl rfl (Zz hs)
 ·exact oa [3,6] fun D J w hs=>Qbn (h':=decide ((s:Int)<(((lo+hi)/2:Nat):Int))) rfl rfl rfl (Zz hs)
 rintro J1 w36 J2 hJ hs
 replace hJ:J2=upd (mix (sq 192 8) J1 _) 199 (.bool ((decide ((lo:Int)<(s:Int)))&&(decide ((s:Int)<(((lo+hi)/2:Nat):Int))))):=hJ
 subst hJ
 refine QfE (fun J J' w'=>∃ (Jo:Env) (m2:List Cen),J'=mix (sq 200 6) Jo J/\(m2.length=N)/\(Merged cf m1 m2 lo ((lo+hi)/2))/\Own w S w' [row (.slice a N c) (m2.map cec) 106 7]) ?_ ?_
 ·
  refine Qam (t:=(decide ((lo:Int)<(s:Int)))&&(decide ((s:Int)<(((lo+hi)/2:Nat):Int)))) rfl (fun c37=>?_) (fun c37=>?_)
  ·
   have c37r:=Qcy c37
   replace c37:=Qb3 c37
   replace c37:=QQ1 c37
   replace c37r:=QQ1 c37r
   refine Qab (Qaa (Qac (V:=.slice a N c) rfl (Qaa (Qac (V:=I6 (lo:Int)) rfl (Qaa (Qac (V:=I6 (s:Int)) rfl (Qaa (Qac (V:=I6 (((lo+hi)/2:Nat):Int)) rfl (Qaa (Qac (V:=.func (.func g) #[] #[]) rfl (Qaa (Qbr (α:=List Cen) (vs:=[.slice a N c,I6 (lo:Int),I6 (s:Int),I6 (((lo+hi)/2:Nat):Int),.func (.func g) #[] #[]]) (V:=fun _=>.tuple #[]) (R:=row (.slice a N c) (m1.map cec) 106 7) (R':=fun x=>row (.slice a N c) (x.map cec) 106 7) (Lo:=fun _=>[]) (F:=fun x _=>x.length=N/\Merged cf m1 x lo ((lo+hi)/2)) QkK rfl rfl hs 0 rfl (fun S hS hlt=>ih _ S a N c m1 lo s ((lo+hi)/2) hz1 hN (by omega) (by omega) (by omega) (by omega) k1 k2 hS hlt) fun mz38 w39 hs hF40=>(Qae ?_)))))))))))))
   exact ⟨_,mz38,Qap (ds:=(sq 200 6)) (by repeat (first|exact Agr.refl _ _|refine Agr.upd ?_ rfl|refine Agr.mix ?_ rfl)),hF40.1,hF40.2,hs.take 1⟩
  refine Qao ?_
  exact ⟨_,m1,Qap (ds:=(sq 200 6)) (by repeat (first|exact Agr.refl _ _|refine Agr.upd ?_ rfl|refine Agr.mix ?_ rfl)),hz1,(⟨Qa9.refl m1 (by omega) (by omega),by
 have ht:=c37
 rcases Nat.lt_or_ge lo s with q|q
 ·have q2:(lo+hi)/2<=s:=by simp [q] at ht;omega
  exact k1.sub (Nat.le_refl _) q2
 ·exact k2.sub q (Nat.le_refl _)⟩),hs.take 1⟩
 rintro J' w41 ⟨Jo,m2,rfl,hz2,hmg,hs⟩
 have k3b:=k3.out hmg.1 (.inr (Nat.le_refl _))
 have k4b:=k4.out hmg.1 (.inr (by omega))
 refine Qag (Qbw [some 206,some 207,some 208,some 209,some 210,some 211,some 212,some 213] [] [0,0,3,7,15,15,63,127] [pv (I6 (((lo+hi)/2:Nat):Int)),pv (I6 (((((lo+hi)/2)+mid)-s:Nat):Int)),pv (.bool (decide ((((lo+hi)/2:Nat):Int)<(((((lo+hi)/2)+mid)-s:Nat):Int)))),pv (.bool (decide ((((lo+hi)/2:Nat):Int)<(((((lo+hi)/2)+mid)-s:Nat):Int)))),pg ((decide ((((lo+hi)/2:Nat):Int)<(((((lo+hi)/2)+mid)-s:Nat):Int))) == true) (I6 (((((lo+hi)/2)+mid)-s:Nat):Int)),pg ((decide ((((lo+hi)/2:Nat):Int)<(((((lo+hi)/2)+mid)-s:Nat):Int))) == true) (I6 (hi:Int)),pg ((decide ((((lo+hi)/2:Nat):Int)<(((((lo+hi)/2)+mid)-s:Nat):Int))) == true) (.bool (decide ((((((lo+hi)/2)+mid)-s:Nat):Int)<(hi:Int)))),pv (.bool ((decide ((((lo+hi)/2:Nat):Int)<(((((lo+hi)/2)+mid)-s:Nat):Int)))&&(decide ((((((lo+hi)/2)+mid)-s:Nat):Int)<(hi:Int)))))] (fun _ _=>_) [7] (by kernel_rfl) hs ⟨?_,?_,?_,?_,?_,?_,?_,?_,trivial⟩ ?_)
 ·exact oa [] fun D J w hs=>Qac (V:=.int .i64 (((lo+hi)/2:Nat):Int)) rfl (Zz hs)
 ·exact oa [] fun D J w hs=>Qac (V:=.int .i64 (((((lo+hi)/2)+mid)-s:Nat):Int)) rfl (Zz hs)
 ·exact oa [0,1] fun D J w hs=>Qa2 rfl rfl (Zz hs)
 ·exact oa [2] fun D J w hs=>Qac (V:=.bool (decide ((((lo+hi)/2:Nat):Int)<(((((lo+hi)/2)+mid)-s:Nat):Int)))) rfl (Zz hs)
 ·exact og [3] fun D J w hG hs=>Qac (V:=.int .i64 (((((lo+hi)/2)+mid)-s:Nat):Int)) rfl (Zz hs)
 ·exact og [3] fun D J w hG hs=>Qac (V:=.int .i64 (hi:Int)) rfl (Zz hs)
 ·exact oy [3,4,5] [4,5] fun D J w hG hs=>Qa2 rfl rfl (Zz hs)
 ·exact oa [3,6] fun D J w hs=>Qbn (h':=decide ((((((lo+hi)/2)+mid)-s:Nat):Int)<(hi:Int))) rfl rfl rfl (Zz hs)
 rintro J1 w42 J2 hJ hs
 replace hJ:J2=upd (mix (sq 206 8) J1 _) 213 (.bool ((decide ((((lo+hi)/2:Nat):Int)<(((((lo+hi)/2)+mid)-s:Nat):Int)))&&(decide ((((((lo+hi)/2)+mid)-s:Nat):Int)<(hi:Int))))):=hJ
 subst hJ
 refine QfE (fun J J' w'=>∃ (Jo:Env) (m3:List Cen),J'=mix (sq 214 6) Jo J/\(m3.length=N)/\(Merged cf m2 m3 ((lo+hi)/2) hi)/\Own w S w' [row (.slice a N c) (m3.map cec) 106 7]) ?_ ?_
 ·
  refine Qam (t:=(decide ((((lo+hi)/2:Nat):Int)<(((((lo+hi)/2)+mid)-s:Nat):Int)))&&(decide ((((((lo+hi)/2)+mid)-s:Nat):Int)<(hi:Int)))) rfl (fun c43=>?_) (fun c43=>?_)
  ·
   have c43r:=Qcy c43
   replace c43:=Qb3 c43
   replace c43:=QQ1 c43
   replace c43r:=QQ1 c43r
   refine Qab (Qaa (Qac (V:=.slice a N c) rfl (Qaa (Qac (V:=I6 (((lo+hi)/2:Nat):Int)) rfl (Qaa (Qac (V:=I6 (((((lo+hi)/2)+mid)-s:Nat):Int)) rfl (Qaa (Qac (V:=I6 (hi:Int)) rfl (Qaa (Qac (V:=.func (.func g) #[] #[]) rfl (Qaa (Qbr (α:=List Cen) (vs:=[.slice a N c,I6 (((lo+hi)/2:Nat):Int),I6 (((((lo+hi)/2)+mid)-s:Nat):Int),I6 (hi:Int),.func (.func g) #[] #[]]) (V:=fun _=>.tuple #[]) (R:=row (.slice a N c) (m2.map cec) 106 7) (R':=fun x=>row (.slice a N c) (x.map cec) 106 7) (Lo:=fun _=>[]) (F:=fun x _=>x.length=N/\Merged cf m2 x ((lo+hi)/2) hi) QkK rfl rfl hs 0 rfl (fun S hS hlt=>ih _ S a N c m2 ((lo+hi)/2) ((((lo+hi)/2)+mid)-s) hi hz2 hN (by omega) (by omega) (by omega) (by omega) k3b k4b hS hlt) fun mz44 w45 hs hF46=>(Qae ?_)))))))))))))
   exact ⟨_,mz44,Qap (ds:=(sq 214 6)) (by repeat (first|exact Agr.refl _ _|refine Agr.upd ?_ rfl|refine Agr.mix ?_ rfl)),hF46.1,hF46.2,hs.take 1⟩
  refine Qao ?_
  exact ⟨_,m2,Qap (ds:=(sq 214 6)) (by repeat (first|exact Agr.refl _ _|refine Agr.upd ?_ rfl|refine Agr.mix ?_ rfl)),hz2,(⟨Qa9.refl m2 (by omega) (by omega),by
 have ht:=c43
 rcases Nat.lt_or_ge ((lo+hi)/2) ((lo+hi)/2+mid-s) with q|q
 ·have q2:hi<=(lo+hi)/2+mid-s:=by simp [q] at ht;omega
  exact k3b.sub (Nat.le_refl _) q2
 ·exact k4b.sub q (Nat.le_refl _)⟩),hs.take 1⟩
 rintro J' w47 ⟨Jo,m3,rfl,hz3,hmg2,hs⟩
 refine ⟨_,Qbf Tryz.results157,?_⟩
 exact ⟨m3,rfl,hs.take 1,hz3,QpE (hro.perm.wide (by omega) (by omega) (by omega)) hmg hmg2 (by omega) (by omega) (by omega) k5⟩
theorem Qj8 (g:Nat) (hg:En Tryz.prog g) (cf:Cen->Cen->Int) (hc:CmpO cf) (hcmp:∀ (w:World) (x y:Cen),Calls Tryz.prog g #[.agg (cec x).toArray,.agg (cec y).toArray] w (fun e w'=>e = .returned (.int .i64 (cf x y))/\Own w no w' [])) (d:Nat):Quv Tryz.prog 157 g 106 7 cec cf d:=by
 induction d with
 | zero=>intro w S a N c l lo mid hi hz hN hd h1 h2;omega
 | succ d ih=>intro w S a N c l lo mid hi hz hN hd h1 h2 h3 ho1 ho2 hR hlt;exact Qm8 d g hg cf hc hcmp ih w S a N c l lo mid hi hz hN hd h1 h2 h3 ho1 ho2 hR hlt
end Tt
end Go.Proofs
namespace Go.Proofs
open Go Go.Vx Go.RowKit
namespace Tt
theorem QuM (w:World) (S:Nat->Prop) (a:Option Addr) (N c:Nat) (l:List Cen) (hz:l.length=N) (hN:N<=1152921504606846975) (g:Nat) (hg:En Tryz.prog g) (cf:Cen->Cen->Int) (hc:CmpO cf) (hcmp:∀ (w:World) (x y:Cen),Calls Tryz.prog g #[.agg (cec x).toArray,.agg (cec y).toArray] w (fun e w'=>e = .returned (.int .i64 (cf x y))/\Own w no w' [])) (hR:(row (.slice a N c) (l.map cec) 106 7).holds w S) (hlt:∀ b,S b->b<w.heap.size):Calls Tryz.prog 126 #[.slice a N c,.int .i64 (N:Int),.func (.func g) #[] #[]] w (fun e w'=>∃ x:List Cen,e = .returned (.tuple #[])/\Own w S w' [row (.slice a N c) (x.map cec) 106 7]/\(x.length=N/\x.Perm l/\Qly cf x)):=by
 refine Qai (n:=63) Tryz.func126 rfl Tryz.ntmps126 rfl ?_
 have hN0:=hN
 replace hN:N<=2305843009213693951:=by omega
 have hs:=Own.lent hR hlt
 refine Qag (Qab (Qaa (Qad (V:=I6 20) rfl (Qae (Qag (Qab (Qaa (Qac (V:=I6 20) rfl (Qaa (Qad (V:=I6 0) rfl (Qaa (Qad (V:=I6 20) rfl (Qae (Qag (Qan (QaD (fun J μ J' w'=>∃ (Jo:Env) (t:Nat) (m:List Cen),J'=upd (upd (mix ([7,8]++sq 11 12) Jo J) 7 (I6 ((t*20:Nat):Int))) 8 (I6 ((t*20+20:Nat):Int))/\(t*20<=N)/\(m.length=N)/\(Qa9 l m 0 N)/\(Blk cf m 20 (t*20))/\μ=N-t*20/\Own w S w' [row (.slice a N c) (m.map cec) 106 7]) ?_ ?_))))))))))))))))
 ·exact ⟨_,_,0,l,Qal (Qal (Qap (ds:=([7,8]++sq 11 12)) (Agr.refl _ _)) rfl) rfl,(by omega),hz,(Qa9.refl l (Nat.zero_le _) (by omega)),Qpo,rfl,hs⟩
 rintro μ J' w1 ⟨Jo,t,m,rfl,ht,hz1,hpm,hbl,rfl,hs⟩
 refine Qag (Qag (Qab (Qaa (Qac (V:=I6 ((t*20+20:Nat):Int)) rfl (Qaa (Qac (V:=I6 (N:Int)) rfl (Qaa (QdZ rfl rfl (Qae (Qam (t:=decide (((t*20+20:Nat):Int)<=(N:Int))) rfl (fun c2=>?_) (fun c2=>?_)))))))))))
 ·
  replace c2:=QQ1 c2
  refine Qao (Qan (Qag (Qab (Qaa (Qac (V:=.slice a N c) rfl (Qaa (Qac (V:=I6 ((t*20:Nat):Int)) rfl (Qaa (Qac (V:=I6 ((t*20+20:Nat):Int)) rfl (Qaa (Qac (V:=.func (.func g) #[] #[]) rfl (Qaa (Qbr (α:=List Cen) (vs:=[.slice a N c,I6 ((t*20:Nat):Int),I6 ((t*20+20:Nat):Int),.func (.func g) #[] #[]]) (V:=fun _=>.tuple #[]) (R:=row (.slice a N c) (m.map cec) 106 7) (R':=fun x=>row (.slice a N c) (x.map cec) 106 7) (Lo:=fun _=>[]) (F:=fun x _=>x.length=N/\Merged cf m x (t*20) (t*20+20)) Qqw rfl rfl hs 0 rfl (fun S hS hlt=>Qqt _ S a N c m hz1 hN (t*20) (t*20+20) (by omega) (by omega) g hg cf hc hcmp hS hlt) fun mz3 w4 hs hF5=>(Qae (Qag (Qab (Qaa (Qac (V:=I6 ((t*20+20:Nat):Int)) rfl (Qaa (Qad (V:=I6 ((t*20+20:Nat):Int)) rfl (Qae (Qab (Qaa (Qac (V:=I6 ((t*20+20:Nat):Int)) rfl (Qaa (Qac (V:=I6 20) rfl (Qaa (QaF (a:=((t*20+20:Nat):Int)) (b:=20) (c:=(((t*20+20)+20:Nat):Int)) rfl rfl (Qak (by omega) (by omega)) (Qaa (Qad (V:=I6 (((t*20+20)+20:Nat):Int)) rfl (Qae ?_)))))))))))))))))))))))))))))))
  refine ⟨_,?_,_,t+1,mz3,Qal (Qal (Qap (ds:=([7,8]++sq 11 12)) (by repeat (first|exact Agr.refl _ _|refine Agr.upd ?_ rfl|refine Agr.mix ?_ rfl))) (congrArg (Value.int .i64) (by omega))) (congrArg (Value.int .i64) (by omega)),(by omega),hF5.1,(hpm.trans (hF5.2.1.wide (by omega) (by omega) (by omega))),(by rw [show (t+1)*20=t*20+20 by omega];exact Qj2 hbl hF5.2.1 hF5.2.2 (Nat.le_refl _)),rfl,hs.take 1⟩
  omega
 replace c2:=QQ2 c2
 refine QaJ (Qag (Qab (Qaa (Qac (V:=.slice a N c) rfl (Qaa (Qac (V:=I6 ((t*20:Nat):Int)) rfl (Qaa (Qac (V:=I6 (N:Int)) rfl (Qaa (Qac (V:=.func (.func g) #[] #[]) rfl (Qaa (Qbr (α:=List Cen) (vs:=[.slice a N c,I6 ((t*20:Nat):Int),I6 (N:Int),.func (.func g) #[] #[]]) (V:=fun _=>.tuple #[]) (R:=row (.slice a N c) (m.map cec) 106 7) (R':=fun x=>row (.slice a N c) (x.map cec) 106 7) (Lo:=fun _=>[]) (F:=fun x _=>x.length=N/\Merged cf m x (t*20) N) Qqw rfl rfl hs 0 rfl (fun S hS hlt=>Qqt _ S a N c m hz1 hN (t*20) N (by omega) (by omega) g hg cf hc hcmp hS hlt) fun mz6 w7 hs hF8=>(Qae (Qan ?_))))))))))))))
 have hb0:Blk cf mz6 20 N:=Qj2 hbl hF8.2.1 hF8.2.2 (by omega)
 have hp0:=hpm.trans (hF8.2.1.wide (by omega) (by omega) (by omega))
 refine QaD (fun J μ J' w'=>∃ (Jo:Env) (s:Nat) (m2:List Cen),J'=upd (mix ([6,7,8,9]++sq 28 35) Jo J) 6 (I6 (s:Int))/\(0<s)/\(s<=2*N+20)/\(m2.length=N)/\(Qa9 l m2 0 N)/\(Blk cf m2 s N)/\μ=N-s/\Own w S w' [row (.slice a N c) (m2.map cec) 106 7]) ?_ ?_
 ·exact ⟨_,_,20,mz6,Qal (Qap (ds:=([6,7,8,9]++sq 28 35)) (Agr.refl _ _)) rfl,(by omega),(by omega),hF8.1,hp0,hb0,rfl,hs⟩
 rintro μ J' w9 ⟨Jo,s,m2,rfl,hs0,hsN,hz2,hpm2,hb2,rfl,hs⟩
 refine Qag (Qag (Qab (Qaa (Qac (V:=I6 (s:Int)) rfl (Qaa (Qac (V:=I6 (N:Int)) rfl (Qaa (Qa2 rfl rfl (Qae (Qam (t:=decide ((s:Int)<(N:Int))) rfl (fun c10=>?_) (fun c10=>?_)))))))))))
 ·
  replace c10:=QQ1 c10
  refine Qao (Qan (Qag (Qab (Qaa (Qac (V:=I6 (s:Int)) rfl (Qaa (QgI (a:=2) (b:=(s:Int)) (c:=((2*s:Nat):Int)) rfl rfl (Qak (by omega) (by omega)) (Qaa (Qad (V:=I6 0) rfl (Qaa (Qad (V:=I6 ((2*s:Nat):Int)) rfl (Qae (Qag (Qan (QaD (fun J μ J' w'=>∃ (Jo:Env) (t:Nat) (A:Nat) (m3:List Cen),J'=upd (upd (mix ([7,8]++sq 33 16) Jo J) 7 (I6 (A:Int))) 8 (I6 ((A+2*s:Nat):Int))/\(A=t*(2*s))/\(A<=N)/\(m3.length=N)/\(Qa9 l m3 0 N)/\(Mrg cf m3 s t N)/\μ=N-A/\Own w S w' [row (.slice a N c) (m3.map cec) 106 7]) ?_ ?_)))))))))))))))
  ·exact ⟨_,_,0,0,m2,Qal (Qal (Qap (ds:=([7,8]++sq 33 16)) (Agr.refl _ _)) rfl) (congrArg (Value.int .i64) (by omega)),(by rw [Nat.zero_mul]),(by omega),hz2,hpm2,(Qm3 hb2),rfl,hs⟩
  rintro μ J' w11 ⟨Jo,t,A,m3,rfl,hA,hAN,hz3,hpm3,hmr,rfl,hs⟩
  refine Qag (Qag (Qab (Qaa (Qac (V:=I6 ((A+2*s:Nat):Int)) rfl (Qaa (Qac (V:=I6 (N:Int)) rfl (Qaa (QdZ rfl rfl (Qae (Qam (t:=decide (((A+2*s:Nat):Int)<=(N:Int))) rfl (fun c12=>?_) (fun c12=>?_)))))))))))
  ·
   replace c12:=QQ1 c12
   refine Qao (Qan (Qag ?_))
   have hpp:=Qf2 hmr
   rw [← hA] at hpp
   have hp1:=hpp.1.sub (Nat.le_refl _) (show A+s<=min (A+s) N by omega)
   have hp2:=hpp.2.sub (Nat.le_refl _) (show A+2*s<=min (A+2*s) N by omega)
   refine Qab (Qaa (Qac (V:=.slice a N c) rfl (Qaa (Qac (V:=I6 (A:Int)) rfl (Qaa (Qac (V:=I6 (A:Int)) rfl (Qaa (Qac (V:=I6 (s:Int)) rfl (Qaa (QaF (a:=(A:Int)) (b:=(s:Int)) (c:=((A+s:Nat):Int)) rfl rfl (Qak (by omega) (by omega)) (Qaa (Qac (V:=I6 ((A+2*s:Nat):Int)) rfl (Qaa (Qac (V:=.func (.func g) #[] #[]) rfl (Qaa (Qbr (α:=List Cen) (vs:=[.slice a N c,I6 (A:Int),I6 ((A+s:Nat):Int),I6 ((A+2*s:Nat):Int),.func (.func g) #[] #[]]) (V:=fun _=>.tuple #[]) (R:=row (.slice a N c) (m3.map cec) 106 7) (R':=fun x=>row (.slice a N c) (x.map cec) 106 7) (Lo:=fun _=>[]) (F:=fun x _=>x.length=N/\Merged cf m3 x A (A+2*s)) QkK rfl rfl hs 0 rfl (fun S hS hlt=>Qj8 g hg cf hc hcmp N _ S a N c m3 A (A+s) (A+2*s) hz3 hN (by omega) (by omega) (by omega) (by omega) hp1 hp2 hS hlt) fun mz13 w14 hs hF15=>(Qae (Qag (Qab (Qaa (Qac (V:=I6 ((A+2*s:Nat):Int)) rfl (Qaa (Qad (V:=I6 ((A+2*s:Nat):Int)) rfl (Qae (Qab (Qaa (Qac (V:=I6 ((A+2*s:Nat):Int)) rfl (Qaa (Qac (V:=I6 (s:Int)) rfl (Qaa (QgI (a:=2) (b:=(s:Int)) (c:=((2*s:Nat):Int)) rfl rfl (Qak (by omega) (by omega)) (Qaa (QaF (a:=((A+2*s:Nat):Int)) (b:=((2*s:Nat):Int)) (c:=(((A+2*s)+(2*s):Nat):Int)) rfl rfl (Qak (by omega) (by omega)) (Qaa (Qad (V:=I6 (((A+2*s)+(2*s):Nat):Int)) rfl (Qae ?_))))))))))))))))))))))))))))))))))))
   refine ⟨_,?_,_,t+1,A+2*s,mz13,Qal (Qal (Qap (ds:=([7,8]++sq 33 16)) (by repeat (first|exact Agr.refl _ _|refine Agr.upd ?_ rfl|refine Agr.mix ?_ rfl))) rfl) (congrArg (Value.int .i64) (by omega)),(by rw [hA,Nat.add_mul,Nat.one_mul]),(by omega),hF15.1,(hpm3.trans (hF15.2.1.wide (by omega) (by omega) (by omega))),(QjR hmr (by rw [← hA];exact hF15.2.1) (by rw [← hA];exact hF15.2.2) (by omega)),rfl,hs.take 1⟩
   omega
  replace c12:=QQ2 c12
  refine QaJ (Qag (Qag (Qab (Qaa (Qac (V:=I6 (A:Int)) rfl (Qaa (Qac (V:=I6 (s:Int)) rfl (Qaa (QaF (a:=(A:Int)) (b:=(s:Int)) (c:=((A+s:Nat):Int)) rfl rfl (Qak (by omega) (by omega)) (Qaa (Qad (V:=I6 ((A+s:Nat):Int)) rfl (Qae (Qag (Qab (Qaa (Qac (V:=I6 ((A+s:Nat):Int)) rfl (Qaa (Qac (V:=I6 (N:Int)) rfl (Qaa (Qa2 rfl rfl (Qae (Qam (t:=decide (((A+s:Nat):Int)<(N:Int))) rfl (fun c16=>?_) (fun c16=>?_)))))))))))))))))))))))
  ·
   replace c16:=QQ1 c16
   have hpp:=Qf2 hmr
   rw [← hA] at hpp
   have hp1:=hpp.1.sub (Nat.le_refl _) (show A+s<=min (A+s) N by omega)
   have hp2:=hpp.2.sub (Nat.le_refl _) (show N<=min (A+2*s) N by omega)
   refine Qab (Qaa (Qac (V:=.slice a N c) rfl (Qaa (Qac (V:=I6 (A:Int)) rfl (Qaa (Qac (V:=I6 ((A+s:Nat):Int)) rfl (Qaa (Qac (V:=I6 (N:Int)) rfl (Qaa (Qac (V:=.func (.func g) #[] #[]) rfl (Qaa (Qbr (α:=List Cen) (vs:=[.slice a N c,I6 (A:Int),I6 ((A+s:Nat):Int),I6 (N:Int),.func (.func g) #[] #[]]) (V:=fun _=>.tuple #[]) (R:=row (.slice a N c) (m3.map cec) 106 7) (R':=fun x=>row (.slice a N c) (x.map cec) 106 7) (Lo:=fun _=>[]) (F:=fun x _=>x.length=N/\Merged cf m3 x A N) QkK rfl rfl hs 0 rfl (fun S hS hlt=>Qj8 g hg cf hc hcmp N _ S a N c m3 A (A+s) N hz3 hN (by omega) (by omega) (by omega) (by omega) hp1 hp2 hS hlt) fun mz17 w18 hs hF19=>(Qae (Qab (Qaa (Qac (V:=I6 (s:Int)) rfl (Qaa (QgI (a:=(s:Int)) (b:=2) (c:=((s*2:Nat):Int)) rfl rfl (Qak (by omega) (by omega)) (Qaa (Qad (V:=I6 ((s*2:Nat):Int)) rfl (Qae ?_)))))))))))))))))))))
   refine ⟨_,?_,_,s*2,mz17,Qal (Qap (ds:=([6,7,8,9]++sq 28 35)) (by repeat (first|exact Agr.refl _ _|refine Agr.upd ?_ rfl|refine Agr.mix ?_ rfl))) rfl,(by omega),(by omega),hF19.1,(hpm3.trans (hF19.2.1.wide (by omega) (by omega) (by omega))),(by
 have hq:=QjR hmr (by rw [← hA];exact hF19.2.1) (by rw [← hA];exact hF19.2.2) (by omega)
 have hq2:=QrI hq (by rw [Nat.add_mul,Nat.one_mul,← hA];omega)
 rw [Nat.mul_comm s 2];exact hq2),rfl,hs.take 1⟩
   omega
  replace c16:=QQ2 c16
  refine Qao (Qab (Qaa (Qac (V:=I6 (s:Int)) rfl (Qaa (QgI (a:=(s:Int)) (b:=2) (c:=((s*2:Nat):Int)) rfl rfl (Qak (by omega) (by omega)) (Qaa (Qad (V:=I6 ((s*2:Nat):Int)) rfl (Qae ?_))))))))
  refine ⟨_,?_,_,s*2,m3,Qal (Qap (ds:=([6,7,8,9]++sq 28 35)) (by repeat (first|exact Agr.refl _ _|refine Agr.upd ?_ rfl|refine Agr.mix ?_ rfl))) rfl,(by omega),(by omega),hz3,hpm3,(by rw [Nat.mul_comm s 2];exact QpM hmr (by omega)),rfl,hs.take 1⟩
  omega
 replace c10:=QQ2 c10
 refine QaJ ?_
 refine ⟨_,Qbf Tryz.results126,?_⟩
 exact ⟨m2,rfl,hs.take 1,hz2,hpm2.perm,Qr2 (Qq1 hb2 (by omega)) (by omega)⟩
theorem Qti (w:World) (S:Nat->Prop) (a:Option Addr) (N c:Nat) (l:List Cen) (hz:l.length=N) (hN:N<=1152921504606846975) (g:Nat) (hg:En Tryz.prog g) (cf:Cen->Cen->Int) (hc:CmpO cf) (hcmp:∀ (w:World) (x y:Cen),Calls Tryz.prog g #[.agg (cec x).toArray,.agg (cec y).toArray] w (fun e w'=>e = .returned (.int .i64 (cf x y))/\Own w no w' [])) (hR:(row (.slice a N c) (l.map cec) 106 7).holds w S) (hlt:∀ b,S b->b<w.heap.size):Calls Tryz.prog 75 #[.slice a N c,.func (.func g) #[] #[]] w (fun e w'=>∃ x:List Cen,e = .returned (.tuple #[])/\Own w S w' [row (.slice a N c) (x.map cec) 106 7]/\(x.length=N/\x.Perm l/\Qly cf x)):=by
 refine Qai (n:=9) Tryz.func75 rfl Tryz.ntmps75 rfl ?_
 have hs:=Own.lent hR hlt
 refine Qab (Qaa (Qac (V:=.slice a N c) rfl (Qaa (Qac (V:=.slice a N c) rfl (Qaa (Qa3 (n:=N) QbC (hs.rd 0 rfl) (by simp [hz]) rfl (Qaa (Qac (V:=.func (.func g) #[] #[]) rfl (Qaa (Qbr (α:=List Cen) (vs:=[.slice a N c,I6 (N:Int),.func (.func g) #[] #[]]) (V:=fun _=>.tuple #[]) (R:=row (.slice a N c) (l.map cec) 106 7) (R':=fun x=>row (.slice a N c) (x.map cec) 106 7) (Lo:=fun _=>[]) (F:=fun x _=>x.length=N/\x.Perm l/\Qly cf x) Qup rfl rfl hs 0 rfl (fun S hS hlt=>QuM _ S a N c l hz hN g hg cf hc hcmp hS hlt) fun mz1 w2 hs hF3=>(Qae ?_)))))))))))
 refine ⟨_,Qbf Tryz.results75,?_⟩
 exact ⟨mz1,rfl,hs.take 1,hF3⟩
end Tt
end Go.Proofs
namespace Go.Proofs
open Go Go.Vx Go.RowKit
namespace Tt
theorem Qpz (w:World) (s:Sta) (a1:Option Addr) (c1:Nat) (a2:Option Addr) (c2:Nat) (n:Int) (hok:Qdx s) (hle:s.ents.length<=1000) (hlt:s.ticks.length<=1000) (hr1:Rd w (.slice a1 s.ents.length c1) 7 (s.ents.map cec)) (hr2:Rd w (.slice a2 s.ticks.length c2) 2 (s.ticks.map lsc)):Calls Tryz.prog 33 #[.agg ((vc s.known)++[(.slice a1 s.ents.length c1:Value),(.slice a2 s.ticks.length c2:Value) ]).toArray,.int .u16 n] w (fun e w'=>∃ x:Option Addr × Nat,e = .returned (.agg [.int .u16 (QaI s n (Qav s)).cart,.slice x.1 (QaI s n (Qav s)).lines.length x.2,.bool (QaI s n (Qav s)).out,.int .u32 (QaI s n (Qav s)).tick].toArray)/\Own w no w' [row (.slice x.1 (QaI s n (Qav s)).lines.length x.2) ((QaI s n (Qav s)).lines.map lc) 127 2]/\True):=by
 refine Qai (n:=94) Tryz.func33 rfl Tryz.ntmps33 rfl ?_
 have hs:=Own.start w
 have ⟨hv0,hE0,hT0⟩:=hok
 refine Qag (Qab (Qaa (Qa4 (V:=.agg ((vc s.known)++[(.slice a1 s.ents.length c1:Value),(.slice a2 s.ticks.length c2:Value) ]).toArray) (cs:=(vc s.known)++[(.slice a1 s.ents.length c1:Value),(.slice a2 s.ticks.length c2:Value) ]) rfl rfl hs fun b1 w2 hs=>(Qaa (QaK (cs:=[I7 0,.slice none 0 0,.bool false,.int .u32 0]) QhV rfl hs fun b3 w4 hs=>(Qae (Qag (Qab (Qaa (Qac (V:=I7 n) rfl (Qaa (QbD (vs:=[(0,I7 n)]) (cs:=[I7 n,.slice none 0 0,.bool false,.int .u32 0]) Quy (rfl) rfl (Qaa (QaK (cs:=[I7 0,.slice none 0 0,.bool false,.int .u32 0]) QhV rfl hs fun b5 w6 hs=>(Qaa (Qcx (V:=.agg #[I7 n,.slice none 0 0,.bool false,.int .u32 0]) (vs:=[I7 n,.slice none 0 0,.bool false,.int .u32 0]) (cs':=[I7 n,.slice none 0 0,.bool false,.int .u32 0]) QdQ.1 hs 2 rfl rfl rfl rfl rfl (QQ8 rfl) (Qau rfl (Qau rfl (Qau rfl (Qau rfl Qa1)))) (Qaz rfl) fun w7 hs=>?_))))))))))))))))
 replace hs:Own w no w7 [blk b1 ((vc s.known)++[(.slice a1 s.ents.length c1:Value),(.slice a2 s.ticks.length c2:Value) ]) 38,blk b3 [I7 0,.slice none 0 0,.bool false,.int .u32 0] 49,blk b5 [I7 n,.slice none 0 0,.bool false,.int .u32 0] 49]:=hs
 refine Qae (Qag (Qag (Qab (Qaa (QaL (cs:=(vc s.known)++[(.slice a1 s.ents.length c1:Value),(.slice a2 s.ticks.length c2:Value) ]) QbU hs 0 rfl rfl rfl (Qaa (Qat (vs:=[.agg ((vc s.known)++[(.slice a1 s.ents.length c1:Value),(.slice a2 s.ticks.length c2:Value) ]).toArray]) (V:=.bool (Qav s)) Qog rfl rfl ?hc hs fun w8 hs=>?_)))))))
 case hc=>exact (Qe8 _ s a1 c1 a2 c2 hok (by omega) (by omega) (Rd.own' hr1 hs) (Rd.own' hr2 hs))
 refine Qaa (Qbz rfl (Qae (Qam (t:=!(Qav s)) rfl (fun c9=>?_) (fun c9=>?_))))
 ·
  replace c9:=Qby c9
  refine Qag (Qab (Qaa (QaL (cs:=[I7 n,.slice none 0 0,.bool false,.int .u32 0]) QdQ hs 2 rfl rfl rfl (Qaa (Qcx (V:=.agg #[I7 n,.slice none 0 0,.bool false,.int .u32 0]) (vs:=[I7 n,.slice none 0 0,.bool false,.int .u32 0]) (cs':=[I7 n,.slice none 0 0,.bool false,.int .u32 0]) QdQ.1 hs 1 rfl rfl rfl rfl rfl (QQ8 rfl) (Qau rfl (Qau rfl (Qau rfl (Qau rfl Qa1)))) (Qaz rfl) fun w10 hs=>(Qae (Qaw ?_)))))))
  refine ⟨_,QdH (cs:=[I7 n,.slice none 0 0,.bool false,.int .u32 0]) Tryz.results33 QdQ hs 1 rfl rfl rfl,?_⟩
  rw [c9]
  exact ⟨(none,0),rfl,(hs.take 0).more _ (Qbd _ _ 127 2),trivial⟩
 replace c9:=Qbu c9
 refine Qao (Qag (Qag ?_))
 have hrc:=QcH.1 c9
 refine Qab (Qaa (QaL (cs:=(vc s.known)++[(.slice a1 s.ents.length c1:Value),(.slice a2 s.ticks.length c2:Value) ]) QbU hs 0 rfl rfl rfl (Qaa (Qac (V:=I7 n) rfl (Qaa (Qat (vs:=[.agg ((vc s.known)++[(.slice a1 s.ents.length c1:Value),(.slice a2 s.ticks.length c2:Value) ]).toArray,I7 n]) (V:=.tuple #[I6 ((QbL s.ticks n:Nat):Int),.bool ((QaM s.ticks n).isSome)]) QrE rfl rfl ?hc hs fun w11 hs=>?_))))))
 case hc=>exact (Qhz _ s.known (.slice a1 s.ents.length c1) a2 c2 s.ticks n (by omega) hrc.rt (Rd.own' hr2 hs))
 refine Qaa (Qac (V:=.tuple #[I6 ((QbL s.ticks n:Nat):Int),.bool ((QaM s.ticks n).isSome)]) rfl (Qaa (QaA (V:=I6 ((QbL s.ticks n:Nat):Int)) rfl rfl (Qaa (QaA (V:=.bool ((QaM s.ticks n).isSome)) rfl rfl (Qaa (Qad (V:=I6 ((QbL s.ticks n:Nat):Int)) rfl (Qaa (Qad (V:=.bool ((QaM s.ticks n).isSome)) rfl (Qae (Qag (Qab (Qaa (Qac (V:=.bool ((QaM s.ticks n).isSome)) rfl (Qae (QfE (fun J J' w'=>∃ (Jo:Env) (tk:Int),J'=mix (sq 25 7) Jo J/\(tk=(QaM s.ticks n).getD 0)/\Own w no w' [blk b1 ((vc s.known)++[(.slice a1 s.ents.length c1:Value),(.slice a2 s.ticks.length c2:Value) ]) 38,blk b3 [I7 0,.slice none 0 0,.bool false,.int .u32 0] 49,blk b5 [I7 n,.slice none 0 0,.bool false,.int .u32 tk] 49]) ?_ ?_))))))))))))))))
 ·
  refine Qam (t:=(QaM s.ticks n).isSome) rfl (fun c12=>?_) (fun c12=>?_)
  ·
   have hfa:=(QhD hrc.rt c12).1
   refine Qab (Qaa (Qaf QcI rfl (Qaa (QaQ (V:=.slice a2 s.ticks.length c2) Qfi hs 0 rfl rfl rfl (Qaa (Qac (V:=I6 ((QbL s.ticks n:Nat):Int)) rfl (Qaa (Qax Qem QbP.1 (Rd.own' hr2 hs) rfl rfl (by omega) (by rw [QQ6];omega) (Qaa (Qaf Qed rfl (Qaa (QaW (j:=1) (V:=.int .u32 ((gd s.ticks (QbL s.ticks n)).tick)) (QbL s.ticks n) QaX (Rd.own' hr2 hs) (Qba (by omega)) rfl rfl (by omega) (Qaa (Qaf Qn0 rfl (Qaa (Qc0 (V:=.int .u32 ((gd s.ticks (QbL s.ticks n)).tick)) (cs':=[I7 n,.slice none 0 0,.bool false,.int .u32 ((gd s.ticks (QbL s.ticks n)).tick)]) QaX hs 2 rfl rfl rfl rfl (QQ8 rfl) rfl fun w13 hs=>(Qae ?_)))))))))))))))))
   exact ⟨_,(gd s.ticks (QbL s.ticks n)).tick,Qap (ds:=(sq 25 7)) (by repeat (first|exact Agr.refl _ _|refine Agr.upd ?_ rfl|refine Agr.mix ?_ rfl)),(by rw [(QhD hrc.rt c12).2.2];rfl),hs.take 3⟩
  refine Qao ?_
  exact ⟨_,0,Qap (ds:=(sq 25 7)) (by repeat (first|exact Agr.refl _ _|refine Agr.upd ?_ rfl|refine Agr.mix ?_ rfl)),(Qrs c12),hs.take 3⟩
 rintro J' w14 ⟨Jo,tk,rfl,htk,hs⟩
 refine Qag (Qab (Qaa (Qad (V:=.slice none 0 0) rfl (Qae (Qag (Qag (Qab (Qaa (Qaf Qdb rfl (Qaa (QaQ (V:=.slice a1 s.ents.length c1) Qgf hs 0 rfl rfl rfl (Qaa (Qa3 (n:=s.ents.length) QbC (Rd.own' hr1 hs) (by simp) rfl (Qaa (Qac (V:=I6 0) rfl (Qae (Qan ?_)))))))))))))))))
 replace hs:=hs.more (row (.slice none 0 0) (List.map cec []) 106 7) (Qbd _ _ _ _)
 refine QaD (fun J μ J' w'=>∃ (Jo:Env) (k:Nat) (an9:Option Addr) (cn9:Nat) (L9:List Cen) (ou:Bool),J'=upd (upd (mix ([8,10]++sq 35 19) Jo J) 35 (I6 (k:Int))) 8 (.slice an9 L9.length cn9)/\(k<=s.ents.length)/\(L9=(s.ents.take k).filter (fun e:Cen=>decide (e.cart=n)&&!decide (e.kind=4)))/\(ou=(s.ents.take k).any (fun e:Cen=>decide (e.cart=n)&&decide (e.kind=4)))/\(L9.length<=k)/\μ=s.ents.length-k/\Own w no w' [blk b1 ((vc s.known)++[(.slice a1 s.ents.length c1:Value),(.slice a2 s.ticks.length c2:Value) ]) 38,blk b3 [I7 0,.slice none 0 0,.bool false,.int .u32 0] 49,blk b5 [I7 n,.slice none 0 0,.bool ou,.int .u32 tk] 49,row (.slice an9 L9.length cn9) (L9.map cec) 106 7]) ?_ ?_
 ·exact ⟨_,_,0,none,0,[],false,Qal (Qal (Qap (ds:=([8,10]++sq 35 19)) (Agr.refl _ _)) rfl) rfl,(by omega),rfl,rfl,(Nat.le_refl _),rfl,hs⟩
 rintro μ J' w15 ⟨Jo,k,an9,cn9,L9,ou,rfl,hk,hL9,hob,hl9,rfl,hs⟩
 refine Qag (Qab (Qaa (Qa2 rfl rfl (Qae (Qag (Qam (t:=decide ((k:Int)<((s.ents.length:Nat):Int))) rfl (fun c16=>?_) (fun c16=>?_)))))))
 ·
  replace c16:=QQ1 c16
  refine Qao (Qag (Qan (Qag (Qab (Qaa (Qax QbC QaB.1 (Rd.own' hr1 hs) rfl rfl (by omega) (by rw [QQ6];omega) (Qaa (Qbb (j:=0) (vs:=cec (gd s.ents k)) k QaB (Rd.own' hr1 hs) (Qba (by omega)) rfl rfl rfl (by omega) (Qaa (QaK (cs:=cec (⟨0,0,0,0,(⟨0,0⟩:Dot),0⟩:Cen)) Qfz rfl hs fun b17 w18 hs=>(Qaa (Qcx (V:=.agg (cec (gd s.ents k)).toArray) (vs:=cec (gd s.ents k)) (cs':=cec (gd s.ents k)) QaB.1 hs 4 rfl rfl rfl rfl rfl (QQ8 rfl) (Qbj _) (Qaz rfl) fun w19 hs=>(Qae (Qan (Qag (Qab (Qaa (Qaf Qde rfl (Qaa (QaQ (V:=I7 ((gd s.ents k).cart)) Qar hs 4 rfl rfl rfl (Qaa (Qac (V:=I7 n) rfl (Qaa (Qcv rfl rfl (Qaa (Qad (V:=.bool (!decide ((gd s.ents k).cart=n))) rfl (Qae (Qam (t:=!decide ((gd s.ents k).cart=n)) rfl (fun c20=>?_) (fun c20=>?_)))))))))))))))))))))))))))))
  ·
   replace c20:=Qby c20
   replace c20:=QQ2 c20
   refine Qao (Qab (Qaa (QaF (a:=(k:Int)) (b:=1) (c:=((k+1:Nat):Int)) rfl rfl (Qak (by omega) (by omega)) (Qaa (Qac (V:=I6 ((k+1:Nat):Int)) rfl (Qae ?_))))))
   refine ⟨_,?_,_,k+1,an9,cn9,L9,ou,Qal (Qal (Qap (ds:=([8,10]++sq 35 19)) (by repeat (first|exact Agr.refl _ _|refine Agr.upd ?_ rfl|refine Agr.mix ?_ rfl))) rfl) rfl,(by omega),(Qfr (p:=(fun e:Cen=>decide (e.cart=n)&&!decide (e.kind=4))) hL9 (by omega) (by simp [c20])),(by rw [← Qf4 (p:=(fun e:Cen=>decide (e.cart=n)&&decide (e.kind=4))) hob (by omega)];simp [c20]),(by omega),rfl,hs.take 4⟩
   omega
  replace c20:=Qbu c20
  replace c20:=QQ1 c20
  refine Qag (Qab (Qaa (Qaf Qef rfl (Qaa (QaQ (V:=.int .u8 ((gd s.ents k).kind)) Qdw hs 4 rfl rfl rfl (Qaa (QaZ rfl rfl (Qaa (Qad (V:=.bool (decide ((gd s.ents k).kind=4))) rfl (Qae (Qam (t:=decide ((gd s.ents k).kind=4)) rfl (fun c21=>?_) (fun c21=>?_))))))))))))
  ·
   replace c21:=QQ1 c21
   refine Qab (Qaa (Qaf Qds rfl (Qaa (Qc0 (V:=.bool true) (cs':=[I7 n,.slice none 0 0,.bool true,.int .u32 tk]) Qn5 hs 2 rfl rfl rfl rfl (QQ8 rfl) rfl fun w22 hs=>(Qae (Qab (Qaa (QaF (a:=(k:Int)) (b:=1) (c:=((k+1:Nat):Int)) rfl rfl (Qak (by omega) (by omega)) (Qaa (Qac (V:=I6 ((k+1:Nat):Int)) rfl (Qae ?_)))))))))))
   refine ⟨_,?_,_,k+1,an9,cn9,L9,true,Qal (Qal (Qap (ds:=([8,10]++sq 35 19)) (by repeat (first|exact Agr.refl _ _|refine Agr.upd ?_ rfl|refine Agr.mix ?_ rfl))) rfl) rfl,(by omega),(Qfr (p:=(fun e:Cen=>decide (e.cart=n)&&!decide (e.kind=4))) hL9 (by omega) (by simp [c20,c21])),(by rw [← Qf4 (p:=(fun e:Cen=>decide (e.cart=n)&&decide (e.kind=4))) hob (by omega)];simp [c20,c21]),(by omega),rfl,hs.take 4⟩
   omega
  replace c21:=QQ2 c21
  refine Qab (Qaa (Qac (V:=.slice an9 L9.length cn9) rfl (Qaa (QaL (cs:=cec (gd s.ents k)) QaB hs 4 rfl rfl rfl (Qaa (QhQ (vals:=[.agg (cec (gd s.ents k)).toArray]) (ls:=List.map cec ([gd s.ents k]:List Cen)) QeL rfl rfl rfl (Qbi (enc:=cec) (fun _=>rfl) _) (QaV Qbj _) (QQ8 rfl) hs fun b23 w24 hs=>(Qaa (Qdi (ls':=(L9++[gd s.ents k]).map cec) (n:=(L9++[gd s.ents k]).length) QeL hs 3 rfl rfl rfl (hs.rd 5 rfl) (QaV Qbj _) (by simp only [QQ6,QQ7,List.length_cons,List.length_nil];omega) (by simp) (by simp) fun a25 c25 w26 hs=>?_))))))))
  replace hs:Own w no w26 [blk b1 ((vc s.known)++[(.slice a1 s.ents.length c1:Value),(.slice a2 s.ticks.length c2:Value) ]) 38,blk b3 [I7 0,.slice none 0 0,.bool false,.int .u32 0] 49,blk b5 [I7 n,.slice none 0 0,.bool ou,.int .u32 tk] 49,row (.slice a25 ((L9++[gd s.ents k]).length) c25) ((L9++[gd s.ents k]).map cec) 106 7,blk b17 (cec (gd s.ents k)) 106,row (.slice (some ⟨b23,0,none⟩) 1 1) ([gd s.ents k].map cec) 106 7]:=hs
  refine Qaa (Qad (V:=.slice a25 ((L9++[gd s.ents k]).length) c25) rfl (Qae (Qab (Qaa (QaF (a:=(k:Int)) (b:=1) (c:=((k+1:Nat):Int)) rfl rfl (Qak (by omega) (by omega)) (Qaa (Qac (V:=I6 ((k+1:Nat):Int)) rfl (Qae ?_))))))))
  refine ⟨_,?_,_,k+1,a25,c25,L9++[gd s.ents k],ou,Qal (Qal (Qap (ds:=([8,10]++sq 35 19)) (by repeat (first|exact Agr.refl _ _|refine Agr.upd ?_ rfl|refine Agr.mix ?_ rfl))) rfl) rfl,(by omega),(QhN (p:=(fun e:Cen=>decide (e.cart=n)&&!decide (e.kind=4))) hL9 (by omega) (by simp [c20,c21])),(by rw [← Qf4 (p:=(fun e:Cen=>decide (e.cart=n)&&decide (e.kind=4))) hob (by omega)];simp [c20,c21]),(by rw [QQ7,List.length_singleton];omega),rfl,hs.take 4⟩
  omega
 replace c16:=QQ2 c16
 refine QaJ (Qag (Qab (Qaa (Qac (V:=.slice an9 L9.length cn9) rfl (Qaa (Qbr (α:=List Cen) (vs:=[.slice an9 L9.length cn9,.func (.func 76) #[] #[]]) (V:=fun _=>.tuple #[]) (R:=row (.slice an9 L9.length cn9) (L9.map cec) 106 7) (R':=fun x=>row (.slice an9 L9.length cn9) (x.map cec) 106 7) (Lo:=fun _=>[]) (F:=fun x _=>x.length=L9.length/\x.Perm L9/\Qly (fun x y:Cen=>Qa0 x.item y.item) x) Qva rfl rfl hs 3 rfl (fun S hS hlt=>Qti _ S an9 L9.length cn9 L9 rfl (by omega) 76 Qvz (fun x y:Cen=>Qa0 x.item y.item) (QpI (fun x:Cen=>x.item)) (fun w x y=>Qok w x y) hS hlt) fun sx28 w27 hs hF29=>(Qae (Qag (Qan ?_)))))))))
 replace hs:=hs.more (row (.slice none 0 0) (List.map lc []) 127 2) (Qbd _ _ _ _)
 obtain ⟨hQl,hQp,hQs⟩:=hF29
 have hLE:L9=Qjh s n:=by rw [hL9,Qcz (by omega)];rfl
 rw [hLE] at hQp
 have hobE:=hob
 rw [Qcz (by omega)] at hobE
 have hQok:∀ e∈sx28,QiU e/\1<=e.count:=fun e he=>by
  have hq:=Qoe hrc (hQp.mem_iff.1 he)
  exact ⟨hE0 e hq.1,hq.2⟩
 refine QaD (fun J μ J' w'=>∃ (Jo:Env) (R:List Cen) (I:List Int) (an3:Option Addr) (cn3:Nat) (an6:Option Addr) (cn6:Nat) (ol:List Line),J'=upd (mix ([8,11]++sq 56 37) Jo J) 8 (.slice an3 R.length cn3)/\(Grps sx28 R I)/\(ol=I.map (Qic s n))/\(ol.length+R.length<=sx28.length)/\(∀ w':World,Rd w' (.slice an9 L9.length cn9) 7 (sx28.map cec)->Rd w' (.slice an3 R.length cn3) 7 (R.map cec))/\μ=R.length+0/\Own w no w' [blk b1 ((vc s.known)++[(.slice a1 s.ents.length c1:Value),(.slice a2 s.ticks.length c2:Value) ]) 38,blk b3 [I7 0,.slice none 0 0,.bool false,.int .u32 0] 49,blk b5 [I7 n,.slice an6 ol.length cn6,.bool ou,.int .u32 tk] 49,row (.slice an9 L9.length cn9) (sx28.map cec) 106 7,row (.slice an6 ol.length cn6) (ol.map lc) 127 2]) ?_ ?_
 ·exact ⟨_,_,sx28,[],an9,cn9,none,0,[],Qal (Qap (ds:=([8,11]++sq 56 37)) (Agr.refl _ _)) (congrArg (fun n=>Value.slice an9 n cn9) hQl.symm),(QkU _),rfl,(by simp),(fun w' h=>by rw [hQl];exact h),rfl,hs⟩
 rintro μ J' w30 ⟨Jo,R,I,an3,cn3,an6,cn6,ol,rfl,hgr,hol,hll,hvia,rfl,hs⟩
 refine Qag (Qag (Qab (Qaa (Qac (V:=.slice an3 R.length cn3) rfl (Qaa (Qa3 (n:=R.length) QbC (hvia _ (hs.rd 3 rfl)) (by simp) rfl (Qaa (Qb2 rfl rfl (Qae (Qam (t:=decide (0<((R.length:Nat):Int))) rfl (fun c31=>?_) (fun c31=>?_)))))))))))
 ·
  replace c31:=QQ1 c31
  refine Qao (Qan (Qag (Qab (Qaa (Qad (V:=I6 1) rfl (Qae (Qag (Qan (QaD (fun J μ J' w'=>∃ (Jo:Env) (j:Nat),J'=upd (mix ([11]++sq 59 18) Jo J) 11 (I6 (j:Int))/\(1<=j)/\(j<=R.length)/\(∀ i,i<j->(gd R i).item=(gd R 0).item)/\μ=R.length-j/\Own w no w' [blk b1 ((vc s.known)++[(.slice a1 s.ents.length c1:Value),(.slice a2 s.ticks.length c2:Value) ]) 38,blk b3 [I7 0,.slice none 0 0,.bool false,.int .u32 0] 49,blk b5 [I7 n,.slice an6 ol.length cn6,.bool ou,.int .u32 tk] 49,row (.slice an9 L9.length cn9) (sx28.map cec) 106 7,row (.slice an6 ol.length cn6) (ol.map lc) 127 2]) ?_ ?_)))))))))
  ·exact ⟨_,_,1,Qal (Qap (ds:=([11]++sq 59 18)) (Agr.refl _ _)) rfl,(Nat.le_refl _),(by omega),(fun i hi=>by rw [show i=0 by omega]),rfl,hs⟩
  rintro μ J' w32 ⟨Jo,j,rfl,hj1,hj2,hji,rfl,hs⟩
  refine Qag (Qag (QaH HM [some 59,some 60,some 61,some 62,some 63,some 64,some 65,some 66,some 67,some 68,some 69,some 70,some 71,some 72,some 73,some 74] [] [0,0,2,7,15,31,31,127,255,511,31,1055,3103,7199,16383,32767] [pv (I6 (j:Int)),pv (.slice an3 R.length cn3),pv (I6 ((R.length:Nat):Int)),pv (.bool (decide ((j:Int)<((R.length:Nat):Int)))),pv (.bool (decide ((j:Int)<((R.length:Nat):Int)))),pg ((decide ((j:Int)<((R.length:Nat):Int))) == true) (.slice an3 R.length cn3),pg ((decide ((j:Int)<((R.length:Nat):Int))) == true) (I6 (j:Int)),pg ((decide ((j:Int)<((R.length:Nat):Int))) == true) (.pointer (some ⟨bkS (.slice an3 R.length cn3),ofS (.slice an3 R.length cn3)+(j:Int).toNat*7,none⟩)),pg ((decide ((j:Int)<((R.length:Nat):Int))) == true) (.pointer (some ⟨bkS (.slice an3 R.length cn3),ofS (.slice an3 R.length cn3)+(j:Int).toNat*7+1,none⟩)),pg ((decide ((j:Int)<((R.length:Nat):Int))) == true) (I7 ((gd R j).item)),pg ((decide ((j:Int)<((R.length:Nat):Int))) == true) (.slice an3 R.length cn3),pg ((decide ((j:Int)<((R.length:Nat):Int))) == true) (.pointer (some ⟨bkS (.slice an3 R.length cn3),ofS (.slice an3 R.length cn3)+(0:Int).toNat*7,none⟩)),pg ((decide ((j:Int)<((R.length:Nat):Int))) == true) (.pointer (some ⟨bkS (.slice an3 R.length cn3),ofS (.slice an3 R.length cn3)+(0:Int).toNat*7+1,none⟩)),pg ((decide ((j:Int)<((R.length:Nat):Int))) == true) (I7 ((gd R 0).item)),pg ((decide ((j:Int)<((R.length:Nat):Int))) == true) (.bool (decide ((gd R j).item=(gd R 0).item))),pv (.bool ((decide ((j:Int)<((R.length:Nat):Int)))&&(decide ((gd R j).item=(gd R 0).item))))] (fun _ _=>_) [15] (by kernel_rfl) hs ⟨?_,?_,?_,?_,?_,?_,?_,?_,?_,?_,?_,?_,?_,?_,?_,?_,trivial⟩ ?_))
  ·exact oa [] fun D J w hs=>Qac (V:=.int .i64 (j:Int)) rfl (Zz hs)
  ·exact oa [] fun D J w hs=>Qac (V:=.slice an3 R.length cn3) rfl (Zz hs)
  ·exact oa [1] fun D J w hs=>Qa3 (n:=R.length) QbC (hvia _ (hs.rd 3 rfl)) (by simp) rfl (Zz hs)
  ·exact oa [0,2] fun D J w hs=>Qa2 rfl rfl (Zz hs)
  ·exact oa [3] fun D J w hs=>Qac (V:=.bool (decide ((j:Int)<((R.length:Nat):Int)))) rfl (Zz hs)
  ·exact og [4] fun D J w hG hs=>Qac (V:=.slice an3 R.length cn3) rfl (Zz hs)
  ·exact og [4] fun D J w hG hs=>Qac (V:=.int .i64 (j:Int)) rfl (Zz hs)
  ·refine oy [4,5,6] [5,6] fun D J w hG hs=>?_
   have hgd:=QQ1 (eq_of_beq (hG))
   exact Qax QbC QaB.1 (hvia _ (hs.rd 3 rfl)) rfl rfl (by omega) (by rw [QQ6];omega) (Zz hs)
  ·exact oy [4,7] [7] fun D J w hG hs=>Qaf Qdg rfl (Zz hs)
  ·refine oy [4,8] [8] fun D J w hG hs=>?_
   have hgd:=QQ1 (eq_of_beq (hG))
   exact QaW (j:=1) (V:=.int .u16 ((gd R j).item)) j Qar (hvia _ (hs.rd 3 rfl)) (Qba (by omega)) rfl rfl (by omega) (Zz hs)
  ·exact og [4] fun D J w hG hs=>Qac (V:=.slice an3 R.length cn3) rfl (Zz hs)
  ·refine oy [4,10] [10] fun D J w hG hs=>?_
   have hgd:=QQ1 (eq_of_beq (hG))
   exact Qax QbC QaB.1 (hvia _ (hs.rd 3 rfl)) rfl rfl (by decide) (by rw [QQ6];omega) (Zz hs)
  ·exact oy [4,11] [11] fun D J w hG hs=>Qaf Qdg rfl (Zz hs)
  ·refine oy [4,12] [12] fun D J w hG hs=>?_
   have hgd:=QQ1 (eq_of_beq (hG))
   exact QaW (j:=1) (V:=.int .u16 ((gd R 0).item)) 0 Qar (hvia _ (hs.rd 3 rfl)) (Qba (by omega)) rfl rfl (by omega) (Zz hs)
  ·exact oy [4,9,13] [9,13] fun D J w hG hs=>QaZ rfl rfl (Zz hs)
  ·exact oa [4,14] fun D J w hs=>Qbn (h':=decide ((gd R j).item=(gd R 0).item)) rfl rfl rfl (Zz hs)
  rintro J1 w33 J2 hJ hs
  replace hJ:J2=upd (mix (sq 59 16) J1 _) 74 (.bool ((decide ((j:Int)<((R.length:Nat):Int)))&&(decide ((gd R j).item=(gd R 0).item)))):=hJ
  subst hJ
  refine Qam (t:=(decide ((j:Int)<((R.length:Nat):Int)))&&(decide ((gd R j).item=(gd R 0).item))) rfl (fun c34=>?_) (fun c34=>?_)
  ·
   have c34r:=Qcy c34
   replace c34:=Qb3 c34
   replace c34:=QQ1 c34
   replace c34r:=QQ1 c34r
   refine Qao (Qan (Qab (Qaa (Qac (V:=I6 (j:Int)) rfl (Qaa (QaF (a:=(j:Int)) (b:=1) (c:=((j+1:Nat):Int)) rfl rfl (Qak (by omega) (by omega)) (Qaa (Qad (V:=I6 ((j+1:Nat):Int)) rfl (Qae ?_)))))))))
   refine ⟨_,?_,_,j+1,Qal (Qap (ds:=([11]++sq 59 18)) (by repeat (first|exact Agr.refl _ _|refine Agr.upd ?_ rfl|refine Agr.mix ?_ rfl))) rfl,(by omega),(by omega),(fun i hi=>by
 rcases Nat.lt_or_eq_of_le (Nat.le_of_lt_succ hi) with q|q
 ·exact hji i q
 ·subst q;exact c34r),rfl,hs.take 5⟩
   omega
  refine QaJ (Qag ?_)
  have hga:=Qrc hrc hQp hgr hQs hj1 hj2 hji (by
          have ht:=c34
          rcases Nat.lt_or_ge j R.length with q|q
          ·right;intro h;simp [q,h] at ht
          ·left;omega)
  have hGok:∀ e∈R.take j,QiU e/\1<=e.count:=fun e he=>hQok e (QpO hgr e (List.mem_of_mem_take he))
  replace hs:=hs.more emp trivial
  refine QaH HM [some 77,some 78,some 79,some 80,some 81,some 82,some 83,some 84,some 85,some 86,some 87,some 88,some 89,none] [[],[],[],[],[],[],[],[],[],[],[87],[88]] [0,1,0,4,12,28,0,0,192,508,1020,2047,4095,8191] [pv (Pq b5 (0+1)),pv (.slice an6 ol.length cn6),pv (.slice an3 R.length cn3),pv (.pointer (some ⟨bkS (.slice an3 R.length cn3),ofS (.slice an3 R.length cn3)+(0:Int).toNat*7,none⟩)),pv (.pointer (some ⟨bkS (.slice an3 R.length cn3),ofS (.slice an3 R.length cn3)+(0:Int).toNat*7+1,none⟩)),pv (I7 ((gd R 0).item)),pv (.slice an3 R.length cn3),pv (I6 (j:Int)),pv (.slice (sla an3 0 cn3 7) ((R.take j).length) (cn3-0)),pv (.agg (lc (⟨(gd R 0).item,QeT (R.take j)⟩:Line)).toArray),(true,fun J=>.slice (some ⟨(bOf (J 87)),0,none⟩) 1 1),(true,fun J=>.slice (aOf (J 88)) ((ol++[(⟨(gd R 0).item,QeT (R.take j)⟩:Line)]).length) (cOf (J 88))),pv (Pq b5 (0+1)),pn] (fun D J=>[blk b1 ((vc s.known)++[(.slice a1 s.ents.length c1:Value),(.slice a2 s.ticks.length c2:Value) ]) 38,blk b3 [I7 0,.slice none 0 0,.bool false,.int .u32 0] 49,cond (D 13) (blk b5 [I7 n,.slice (aOf (J 88)) ((ol++[(⟨(gd R 0).item,QeT (R.take j)⟩:Line)]).length) (cOf (J 88)),.bool ou,.int .u32 tk] 49) (blk b5 [I7 n,.slice an6 ol.length cn6,.bool ou,.int .u32 tk] 49),row (.slice an9 L9.length cn9) (sx28.map cec) 106 7,cond (D 11) (row (.slice (aOf (J 88)) ((ol++[(⟨(gd R 0).item,QeT (R.take j)⟩:Line)]).length) (cOf (J 88))) ((ol++[(⟨(gd R 0).item,QeT (R.take j)⟩:Line)]).map lc) 127 2) (row (.slice an6 ol.length cn6) (ol.map lc) 127 2),cond (D 10) (row (.slice (some ⟨(bOf (J 87)),0,none⟩) 1 1) ([(⟨(gd R 0).item,QeT (R.take j)⟩:Line)].map lc) 127 2) (emp)]) [] (by kernel_rfl) hs ⟨?_,?_,?_,?_,?_,?_,?_,?_,?_,?_,?_,?_,?_,?_,trivial⟩ ?_
  ·exact oa [] fun D J w hs=>Qaf Qev rfl (Zz hs)
  ·exact ob [0] [13] rfl rfl fun D J w hs=>QaQ (V:=.slice an6 ol.length cn6) QiZ hs 2 rfl rfl rfl (Zz hs)
  ·exact oa [] fun D J w hs=>Qac (V:=.slice an3 R.length cn3) rfl (Zz hs)
  ·exact oa [2] fun D J w hs=>Qax QbC QaB.1 (hvia _ (hs.rd 3 rfl)) rfl rfl (by decide) (by rw [QQ6];omega) (Zz hs)
  ·exact oa [3] fun D J w hs=>Qaf Qdg rfl (Zz hs)
  ·exact oa [4] fun D J w hs=>QaW (j:=1) (V:=.int .u16 ((gd R 0).item)) 0 Qar (hvia _ (hs.rd 3 rfl)) (Qba (by omega)) rfl rfl (by omega) (Zz hs)
  ·exact oa [] fun D J w hs=>Qac (V:=.slice an3 R.length cn3) rfl (Zz hs)
  ·exact oa [] fun D J w hs=>Qac (V:=.int .i64 (j:Int)) rfl (Zz hs)
  ·exact oa [6,7] fun D J w hs=>QkQ (l:=0) (h:=j) (m:=cn3) (n':=(R.take j).length) QcW QaB.1 (hvia _ (hs.rd 3 rfl)) rfl (.inl ⟨rfl,rfl⟩) (.inr ⟨_,_,rfl,rfl⟩) (.inl ⟨rfl,rfl⟩) (by omega) (by omega) (Nat.le_trans (show j<=R.length by omega) (Rd.roomM (hvia _ (hs.rd 3 rfl)))) (Nat.le_refl _) (by simp only [List.length_take,List.length_drop]<;>omega) (Zz hs)
  ·exact oa [5,8] fun D J w hs=>Qat (vs:=[.int .u16 ((gd R 0).item),.slice (sla an3 0 cn3 7) ((R.take j).length) (cn3-0)]) (V:=.agg (lc (⟨(gd R 0).item,QeT (R.take j)⟩:Line)).toArray) Qu0 rfl rfl (Qsb _ ((gd R 0).item) (sla an3 0 cn3 7) (cn3-0) (R.take j) hGok (Rd.subM (hvia _ (hs.rd 3 rfl)) 0 j cn3 (by omega) (by omega) (Nat.le_trans (show j<=R.length by omega) (Rd.roomM (hvia _ (hs.rd 3 rfl)))) (Nat.le_refl _) _ (by simp only [List.length_take,List.length_drop]<;>omega))) hs fun _ hs=>Zz hs
  ·exact oa [9] fun D J w hs=>QhQ (vals:=[.agg (lc (⟨(gd R 0).item,QeT (R.take j)⟩:Line)).toArray]) (ls:=List.map lc ([(⟨(gd R 0).item,QeT (R.take j)⟩:Line)]:List Line)) Qua rfl rfl rfl (Qbi (enc:=lc) (fun _=>rfl) _) (QaV Qj6 _) (QQ8 rfl) hs fun _ _ hs=>⟨rfl,hs.put 5 (QQ8 rfl)⟩
  ·exact ob [1,10] [13] rfl rfl fun D J w hs=>Qdi (ls':=(ol++[(⟨(gd R 0).item,QeT (R.take j)⟩:Line)]).map lc) (n:=(ol++[(⟨(gd R 0).item,QeT (R.take j)⟩:Line)]).length) Qua hs 4 rfl rfl rfl (hs.rd 5 rfl) (QaV Qj6 _) (by simp only [QQ6,QQ7,List.length_cons,List.length_nil];omega) (by simp) (by simp) fun _ _ _ hs=>⟨rfl,hs⟩
  ·exact oa [] fun D J w hs=>Qaf Qev rfl (Zz hs)
  ·exact oa [11,12] fun D J w hs=>Qc0 (V:=.slice (aOf (J 88)) ((ol++[(⟨(gd R 0).item,QeT (R.take j)⟩:Line)]).length) (cOf (J 88))) (cs':=[.int .u16 n,.slice (aOf (J 88)) ((ol++[(⟨(gd R 0).item,QeT (R.take j)⟩:Line)]).length) (cOf (J 88)),.bool ou,.int .u32 tk]) QiZ hs 2 rfl rfl rfl rfl (QQ8 rfl) rfl fun _ hs=>⟨trivial,hs⟩
  rintro J1 w39 J2 hJ hs
  replace hJ:J2=mix (sq 77 13) J1 _:=hJ
  replace hs:Own w no w39 [blk b1 ((vc s.known)++[(.slice a1 s.ents.length c1:Value),(.slice a2 s.ticks.length c2:Value) ]) 38,blk b3 [I7 0,.slice none 0 0,.bool false,.int .u32 0] 49,blk b5 [I7 n,.slice (aOf (J1 88)) ((ol++[(⟨(gd R 0).item,QeT (R.take j)⟩:Line)]).length) (cOf (J1 88)),.bool ou,.int .u32 tk] 49,row (.slice an9 L9.length cn9) (sx28.map cec) 106 7,row (.slice (aOf (J1 88)) ((ol++[(⟨(gd R 0).item,QeT (R.take j)⟩:Line)]).length) (cOf (J1 88))) ((ol++[(⟨(gd R 0).item,QeT (R.take j)⟩:Line)]).map lc) 127 2,row (.slice (some ⟨(bOf (J1 87)),0,none⟩) 1 1) ([(⟨(gd R 0).item,QeT (R.take j)⟩:Line)].map lc) 127 2]:=hs
  generalize (bOf (J1 87))=b40 at hs
  generalize (aOf (J1 88))=a41 at hs
  generalize (cOf (J1 88))=c42 at hs
  subst hJ
  refine Qab (Qaa (Qac (V:=.slice an3 R.length cn3) rfl (Qaa (Qac (V:=I6 (j:Int)) rfl (Qaa (QkQ (l:=j) (h:=R.length) (m:=cn3) (n':=(R.drop j).length) QcW QaB.1 (hvia _ (hs.rd 3 rfl)) rfl (.inr ⟨_,_,rfl,rfl⟩) (.inl ⟨rfl,rfl⟩) (.inl ⟨rfl,rfl⟩) (by omega) (by omega) (Nat.le_trans (show R.length<=R.length by omega) (Rd.roomM (hvia _ (hs.rd 3 rfl)))) (Nat.le_refl _) (by simp only [List.length_take,List.length_drop]<;>omega) ?_))))))
  refine Qaa (Qad (V:=.slice (sla an3 j cn3 7) ((R.drop j).length) (cn3-j)) rfl (Qae ?_))
  refine ⟨_,?_,_,R.drop j,I++[(gd R 0).item],(sla an3 j cn3 7),cn3-j,a41,c42,ol++[(⟨(gd R 0).item,QeT (R.take j)⟩:Line)],Qal (Qap (ds:=([8,11]++sq 56 37)) (by repeat (first|exact Agr.refl _ _|refine Agr.upd ?_ rfl|refine Agr.mix ?_ rfl))) rfl,hga.1,(Qnr hol hga.2),(by simp only [QQ7,List.length_singleton,List.length_drop];omega),(fun w' h=>Rd.dropM (hvia w' h) j (by omega) _ (by rw [List.length_drop])),rfl,hs.take 5⟩
  (rw [List.length_drop];omega)
 replace c31:=QQ2 c31
 refine QaJ (Qag (Qab (Qaa (QaL (cs:=[I7 n,.slice an6 ol.length cn6,.bool ou,.int .u32 tk]) QdQ hs 2 rfl rfl rfl (Qaa (Qcx (V:=.agg #[I7 n,.slice an6 ol.length cn6,.bool ou,.int .u32 tk]) (vs:=[I7 n,.slice an6 ol.length cn6,.bool ou,.int .u32 tk]) (cs':=[I7 n,.slice an6 ol.length cn6,.bool ou,.int .u32 tk]) QdQ.1 hs 1 rfl rfl rfl rfl rfl (QQ8 rfl) (Qau rfl (Qau rfl (Qau rfl (Qau rfl Qa1)))) (Qaz rfl) fun w43 hs=>(Qae (Qaw ?_))))))))
 refine ⟨_,QdH (cs:=[I7 n,.slice an6 ol.length cn6,.bool ou,.int .u32 tk]) Tryz.results33 QdQ hs 1 rfl rfl rfl,?_⟩
 have hV:=QqY c9 htk hobE hQp hgr (by omega) hol
 rw [hV]
 exact ⟨(an6,cn6),rfl,hs.only 4 rfl,trivial⟩
end Tt
end Go.Proofs
namespace Go.Proofs
open Go Go.Vx Go.RowKit
namespace Tt
theorem QeG (w:World) (s:Sta) (a1:Option Addr) (c1:Nat) (a2:Option Addr) (c2:Nat) (n:Int) (V:Vw) (hV:QaI s n (Qav s)=V) (hok:Qdx s) (hle:s.ents.length<=1000) (hlt:s.ticks.length<=1000) (hr1:Rd w (.slice a1 s.ents.length c1) 7 (s.ents.map cec)) (hr2:Rd w (.slice a2 s.ticks.length c2) 2 (s.ticks.map lsc)):Calls Tryz.prog 33 #[.agg ((vc s.known)++[(.slice a1 s.ents.length c1:Value),(.slice a2 s.ticks.length c2:Value) ]).toArray,.int .u16 n] w (fun e w'=>∃ x:Option Addr × Nat,e = .returned (.agg [.int .u16 (V).cart,.slice x.1 (V).lines.length x.2,.bool (V).out,.int .u32 (V).tick].toArray)/\Own w no w' [row (.slice x.1 (V).lines.length x.2) ((V).lines.map lc) 127 2]/\True):=by
 subst hV;exact Qpz w s a1 c1 a2 c2 n hok hle hlt hr1 hr2
end Tt
end Go.Proofs
namespace Go.Proofs
open Go Go.Vx Go.RowKit
namespace Tt
theorem QfG (w:World) (p:Pst) (a1:Option Addr) (c1:Nat) (a2:Option Addr) (c2:Nat) (a3:Option Addr) (c3:Nat) (cut:Vec) (hcut:QbM cut) (n:Int) (hsortE:QgH Tryz.prog 48 49 cec 106 7 QkG) (hsortU:QgC Tryz.prog 134 .u16 32) (hok:Qdq p) (hle:p.base.ents.length<=400) (hlt:p.base.ticks.length<=400) (hlo:p.ops.length<=400) (hr1:Rd w (.slice a1 p.base.ents.length c1) 7 (p.base.ents.map cec)) (hr2:Rd w (.slice a2 p.base.ticks.length c2) 2 (p.base.ticks.map lsc)) (hr3:Rd w (.slice a3 p.ops.length c3) 23 (p.ops.map oc)):Calls Tryz.prog 15 #[.agg (((vc p.base.known)++[(.slice a1 p.base.ents.length c1:Value),(.slice a2 p.base.ticks.length c2:Value) ])++[(.slice a3 p.ops.length c3:Value) ]++(vc p.known)).toArray,.agg (vc cut).toArray,.int .u16 n] w (fun e w'=>∃ x:Option Addr × Nat,e = .returned (.tuple #[.agg [.int .u16 (Qas p cut n).cart,.slice x.1 (Qas p cut n).lines.length x.2,.bool (Qas p cut n).out,.int .u32 (Qas p cut n).tick].toArray,.int .i64 (Qbh p cut)])/\Own w no w' [row (.slice x.1 (Qas p cut n).lines.length x.2) ((Qas p cut n).lines.map lc) 127 2]/\True):=by
 refine Qai (n:=23) Tryz.func15 rfl Tryz.ntmps15 rfl ?_
 have hs:=Own.start w
 have ⟨hokb,hoko,hokk⟩:=hok
 have hsl:=QdK p cut
 have hso:=QeJ (cut:=cut) hok hcut
 refine Qag (Qab (Qaa (Qa4 (V:=.agg (((vc p.base.known)++[(.slice a1 p.base.ents.length c1:Value),(.slice a2 p.base.ticks.length c2:Value) ])++[(.slice a3 p.ops.length c3:Value) ]++(vc p.known)).toArray) (cs:=((vc p.base.known)++[(.slice a1 p.base.ents.length c1:Value),(.slice a2 p.base.ticks.length c2:Value) ])++[(.slice a3 p.ops.length c3:Value) ]++(vc p.known)) rfl rfl hs fun b1 w2 hs=>(Qaa (Qa4 (V:=.agg (vc cut).toArray) (cs:=vc cut) rfl rfl hs fun b3 w4 hs=>(Qaa (QaK (cs:=[I7 0,.slice none 0 0,.bool false,.int .u32 0]) QhV rfl hs fun b5 w6 hs=>(Qaa (Qad (V:=I6 0) rfl (Qae (Qag (Qab (Qaa (QaL (cs:=((vc p.base.known)++[(.slice a1 p.base.ents.length c1:Value),(.slice a2 p.base.ticks.length c2:Value) ])++[(.slice a3 p.ops.length c3:Value) ]++(vc p.known)) QcU hs 0 rfl rfl rfl (Qaa (QaL (cs:=vc cut) Qbk hs 1 rfl rfl rfl (Qaa (Qbm (α:=(Option Addr × Nat) × (Option Addr × Nat)) (vs:=[.agg (((vc p.base.known)++[(.slice a1 p.base.ents.length c1:Value),(.slice a2 p.base.ticks.length c2:Value) ])++[(.slice a3 p.ops.length c3:Value) ]++(vc p.known)).toArray,.agg (vc cut).toArray]) (V:=fun x:(Option Addr × Nat) × (Option Addr × Nat)=>.tuple #[.agg (vc (Qah p cut).known++[(.slice x.1.1 ((Qah p cut).ents).length x.1.2:Value),(.slice x.2.1 ((Qah p cut).ticks).length x.2.2:Value)]).toArray,I6 (Qbh p cut)]) (Lo:=fun x=>[row (.slice x.1.1 ((Qah p cut).ents).length x.1.2) (((Qah p cut).ents).map cec) 106 7,row (.slice x.2.1 ((Qah p cut).ticks).length x.2.2) (((Qah p cut).ticks).map lsc) 102 2]) (F:=fun _ _=>True) QnE rfl rfl ?hc hs fun x8 w7 hs _=>?_))))))))))))))))))
 case hc=>exact (Qd0 _ p a1 c1 a2 c2 a3 c3 cut hcut hsortE hsortU hok hle hlt hlo (Rd.own' hr1 hs) (Rd.own' hr2 hs) (Rd.own' hr3 hs))
 replace hs:Own w no w7 [blk b1 (((vc p.base.known)++[(.slice a1 p.base.ents.length c1:Value),(.slice a2 p.base.ticks.length c2:Value) ])++[(.slice a3 p.ops.length c3:Value) ]++(vc p.known)) 43,blk b3 (vc cut) 24,blk b5 [I7 0,.slice none 0 0,.bool false,.int .u32 0] 49,row (.slice x8.1.1 (((Qah p cut).ents).length) x8.1.2) (((Qah p cut).ents).map cec) 106 7,row (.slice x8.2.1 (((Qah p cut).ticks).length) x8.2.2) (((Qah p cut).ticks).map lsc) 102 2]:=hs
 refine Qaa (Qac (V:=.tuple #[.agg ((vc ((Qah p cut).known))++[(.slice x8.1.1 (((Qah p cut).ents).length) x8.1.2:Value),(.slice x8.2.1 (((Qah p cut).ticks).length) x8.2.2:Value) ]).toArray,I6 (Qbh p cut)]) rfl (Qaa (QaA (V:=.agg ((vc ((Qah p cut).known))++[(.slice x8.1.1 (((Qah p cut).ents).length) x8.1.2:Value),(.slice x8.2.1 (((Qah p cut).ticks).length) x8.2.2:Value) ]).toArray) rfl rfl (Qaa (QaA (V:=I6 (Qbh p cut)) rfl rfl (Qaa (QaK (cs:=(vc vzero)++[(.slice none 0 0:Value),(.slice none 0 0:Value) ]) QfB rfl hs fun b9 w10 hs=>(Qaa (Qcx (V:=.agg ((vc ((Qah p cut).known))++[(.slice x8.1.1 (((Qah p cut).ents).length) x8.1.2:Value),(.slice x8.2.1 (((Qah p cut).ticks).length) x8.2.2:Value) ]).toArray) (vs:=(vc ((Qah p cut).known))++[(.slice x8.1.1 (((Qah p cut).ents).length) x8.1.2:Value),(.slice x8.2.1 (((Qah p cut).ticks).length) x8.2.2:Value) ]) (cs':=(vc ((Qah p cut).known))++[(.slice x8.1.1 (((Qah p cut).ents).length) x8.1.2:Value),(.slice x8.2.1 (((Qah p cut).ticks).length) x8.2.2:Value) ]) QbU.1 hs 5 rfl rfl rfl rfl rfl (QQ8 rfl) (Qbl (QbO _) (Qau rfl (Qau rfl Qa1))) (Qaz rfl) fun w11 hs=>(Qaa (Qad (V:=I6 (Qbh p cut)) rfl (Qae (Qag (Qag (Qab (Qaa (Qac (V:=I6 (Qbh p cut)) rfl (Qaa (Qcv rfl rfl (Qae (Qam (t:=!decide (Qbh p cut=0)) rfl (fun c12=>?_) (fun c12=>?_))))))))))))))))))))))
 ·
  replace c12:=Qby c12
  replace c12:=QQ2 c12
  refine Qag (Qab (Qaa (QbD (vs:=[]) (cs:=[I7 0,.slice none 0 0,.bool false,.int .u32 0]) Quy (rfl) rfl (Qaa (Qac (V:=I6 (Qbh p cut)) rfl (Qaa (Qcx (V:=.agg #[I7 0,.slice none 0 0,.bool false,.int .u32 0]) (vs:=[I7 0,.slice none 0 0,.bool false,.int .u32 0]) (cs':=[I7 0,.slice none 0 0,.bool false,.int .u32 0]) QdQ.1 hs 2 rfl rfl rfl rfl rfl (QQ8 rfl) (Qau rfl (Qau rfl (Qau rfl (Qau rfl Qa1)))) (Qaz rfl) fun w13 hs=>(Qaa (Qad (V:=I6 (Qbh p cut)) rfl (Qae (Qaw ?_)))))))))))
  refine ⟨_,Qcm (cs:=[I7 0,.slice none 0 0,.bool false,.int .u32 0]) (V:=I6 (Qbh p cut)) Tryz.results15 QdQ hs 2 rfl rfl rfl rfl,?_⟩
  rw [Qo6 c12]
  exact ⟨(none,0),rfl,(hs.take 0).more _ (Qbd _ _ 127 2),trivial⟩
 replace c12:=Qbu c12
 replace c12:=QQ1 c12
 refine Qao (Qag (Qab (Qaa (QaL (cs:=(vc ((Qah p cut).known))++[(.slice x8.1.1 (((Qah p cut).ents).length) x8.1.2:Value),(.slice x8.2.1 (((Qah p cut).ticks).length) x8.2.2:Value) ]) QbU hs 5 rfl rfl rfl (Qaa (Qac (V:=I7 n) rfl (Qaa (Qbm (α:=Option Addr × Nat) (vs:=[.agg ((vc ((Qah p cut).known))++[(.slice x8.1.1 (((Qah p cut).ents).length) x8.1.2:Value),(.slice x8.2.1 (((Qah p cut).ticks).length) x8.2.2:Value) ]).toArray,I7 n]) (V:=fun x=>.agg #[I7 ((QaI (Qah p cut) n (Qav (Qah p cut))).cart),.slice x.1 (((QaI (Qah p cut) n (Qav (Qah p cut))).lines).length) x.2,.bool ((QaI (Qah p cut) n (Qav (Qah p cut))).out),.int .u32 ((QaI (Qah p cut) n (Qav (Qah p cut))).tick)]) (Lo:=fun x=>[row (.slice x.1 ((QaI (Qah p cut) n (Qav (Qah p cut))).lines).length x.2) (((QaI (Qah p cut) n (Qav (Qah p cut))).lines).map lc) 127 2]) (F:=fun _ _=>True) Qpd rfl rfl ?hc hs fun x15 w14 hs _=>?_))))))))
 case hc=>exact (QeG _ (Qah p cut) x8.1.1 x8.1.2 x8.2.1 x8.2.2 n (QaI (Qah p cut) n (Qav (Qah p cut)):Vw) (rfl) hso (by omega) (by omega) (hs.rd 3 rfl) (hs.rd 4 rfl))
 refine Qaa (Qcx (V:=.agg #[I7 ((QaI (Qah p cut) n (Qav (Qah p cut))).cart),.slice x15.1 (((QaI (Qah p cut) n (Qav (Qah p cut))).lines).length) x15.2,.bool ((QaI (Qah p cut) n (Qav (Qah p cut))).out),.int .u32 ((QaI (Qah p cut) n (Qav (Qah p cut))).tick)]) (vs:=[I7 ((QaI (Qah p cut) n (Qav (Qah p cut))).cart),.slice x15.1 (((QaI (Qah p cut) n (Qav (Qah p cut))).lines).length) x15.2,.bool ((QaI (Qah p cut) n (Qav (Qah p cut))).out),.int .u32 ((QaI (Qah p cut) n (Qav (Qah p cut))).tick)]) (cs':=[I7 ((QaI (Qah p cut) n (Qav (Qah p cut))).cart),.slice x15.1 (((QaI (Qah p cut) n (Qav (Qah p cut))).lines).length) x15.2,.bool ((QaI (Qah p cut) n (Qav (Qah p cut))).out),.int .u32 ((QaI (Qah p cut) n (Qav (Qah p cut))).tick)]) QdQ.1 hs 2 rfl rfl rfl rfl rfl (QQ8 rfl) (Qau rfl (Qau rfl (Qau rfl (Qau rfl Qa1)))) (Qaz rfl) fun w16 hs=>?_)
 replace hs:Own w no w16 [blk b1 (((vc p.base.known)++[(.slice a1 p.base.ents.length c1:Value),(.slice a2 p.base.ticks.length c2:Value) ])++[(.slice a3 p.ops.length c3:Value) ]++(vc p.known)) 43,blk b3 (vc cut) 24,blk b5 [I7 ((QaI (Qah p cut) n (Qav (Qah p cut))).cart),.slice x15.1 (((QaI (Qah p cut) n (Qav (Qah p cut))).lines).length) x15.2,.bool ((QaI (Qah p cut) n (Qav (Qah p cut))).out),.int .u32 ((QaI (Qah p cut) n (Qav (Qah p cut))).tick)] 49,row (.slice x8.1.1 (((Qah p cut).ents).length) x8.1.2) (((Qah p cut).ents).map cec) 106 7,row (.slice x8.2.1 (((Qah p cut).ticks).length) x8.2.2) (((Qah p cut).ticks).map lsc) 102 2,blk b9 ((vc ((Qah p cut).known))++[(.slice x8.1.1 (((Qah p cut).ents).length) x8.1.2:Value),(.slice x8.2.1 (((Qah p cut).ticks).length) x8.2.2:Value) ]) 38,row (.slice x15.1 (((QaI (Qah p cut) n (Qav (Qah p cut))).lines).length) x15.2) (((QaI (Qah p cut) n (Qav (Qah p cut))).lines).map lc) 127 2]:=hs
 refine Qaa (Qad (V:=I6 0) rfl (Qae (Qaw ?_)))
 refine ⟨_,Qcm (cs:=[I7 ((QaI (Qah p cut) n (Qav (Qah p cut))).cart),.slice x15.1 (((QaI (Qah p cut) n (Qav (Qah p cut))).lines).length) x15.2,.bool ((QaI (Qah p cut) n (Qav (Qah p cut))).out),.int .u32 ((QaI (Qah p cut) n (Qav (Qah p cut))).tick)]) (V:=I6 0) Tryz.results15 QdQ hs 2 rfl rfl rfl rfl,?_⟩
 rw [QdA c12,c12]
 exact ⟨(x15.1,x15.2),rfl,hs.only 6 rfl,trivial⟩
end Tt
end Go.Proofs
namespace Go.Proofs
open Go Go.Vx Go.RowKit
namespace Tt
theorem Qif (w:World) (s:Sta) (a1:Option Addr) (c1:Nat) (a2:Option Addr) (c2:Nat) (hok:Qdx s) (hle:s.ents.length<=1000) (hlt:s.ticks.length<=1000) (hr1:Rd w (.slice a1 s.ents.length c1) 7 (s.ents.map cec)) (hr2:Rd w (.slice a2 s.ticks.length c2) 2 (s.ticks.map lsc)):Calls Tryz.prog 63 #[.agg ((vc s.known)++[(.slice a1 s.ents.length c1:Value),(.slice a2 s.ticks.length c2:Value) ]).toArray] w (fun e w'=>∃ x:Option Addr × Nat,e = .returned (.slice x.1 (Qay s).length x.2)/\Own w no w' [row (.slice x.1 (Qay s).length x.2) ((Qay s).map (ic .u16)) 32 1]/\True):=by
 refine Qai (n:=23) Tryz.func63 rfl Tryz.ntmps63 rfl ?_
 have hs:=Own.start w
 have ⟨hv0,hE0,hT0⟩:=hok
 refine Qag (Qab (Qaa (Qa4 (V:=.agg ((vc s.known)++[(.slice a1 s.ents.length c1:Value),(.slice a2 s.ticks.length c2:Value) ]).toArray) (cs:=(vc s.known)++[(.slice a1 s.ents.length c1:Value),(.slice a2 s.ticks.length c2:Value) ]) rfl rfl hs fun b1 w2 hs=>(Qaa (Qad (V:=.slice none 0 0) rfl (Qae (Qag (Qag (Qab (Qaa (QaL (cs:=(vc s.known)++[(.slice a1 s.ents.length c1:Value),(.slice a2 s.ticks.length c2:Value) ]) QbU hs 0 rfl rfl rfl (Qaa (Qat (vs:=[.agg ((vc s.known)++[(.slice a1 s.ents.length c1:Value),(.slice a2 s.ticks.length c2:Value) ]).toArray]) (V:=.bool (Qav s)) Qog rfl rfl ?hc hs fun w3 hs=>?_)))))))))))))
 case hc=>exact (Qe8 _ s a1 c1 a2 c2 hok (by omega) (by omega) (Rd.own' hr1 hs) (Rd.own' hr2 hs))
 refine Qaa (Qbz rfl (Qae (Qam (t:=!(Qav s)) rfl (fun c4=>?_) (fun c4=>?_))))
 ·
  replace c4:=Qby c4
  refine Qag (Qab (Qaa (Qad (V:=.slice none 0 0) rfl (Qae (Qaw ?_)))))
  refine ⟨_,Qaq (V:=.slice none 0 0) Tryz.results63 rfl,?_⟩
  have hX:Qay s=[]:=by unfold Qay;rw [if_neg (by rw [c4];decide)]
  rw [hX]
  exact ⟨(none,0),rfl,(hs.take 0).more _ (Qbd _ _ _ _),trivial⟩
 replace c4:=Qbu c4
 refine Qao (Qag (Qab (Qaa (Qad (V:=.slice none 0 0) rfl (Qae (Qag (Qag (Qab (Qaa (Qaf QcI rfl (Qaa (QaQ (V:=.slice a2 s.ticks.length c2) Qfi hs 0 rfl rfl rfl (Qaa (Qa3 (n:=s.ticks.length) Qem (Rd.own' hr2 hs) (by simp) rfl (Qaa (Qac (V:=I6 0) rfl (Qae (Qan ?_))))))))))))))))))
 replace hs:=hs.more (row (.slice none 0 0) (List.map (ic .u16) []) 32 1) (Qbd _ _ _ _)
 refine QaD (fun J μ J' w'=>∃ (Jo:Env) (k:Nat) (a9:Option Addr) (c9:Nat) (L9:List Int),J'=upd (upd (mix ([3,5]++sq 12 10) Jo J) 12 (I6 (k:Int))) 3 (.slice a9 L9.length c9)/\(k<=s.ticks.length)/\(L9=(s.ticks.take k).map (·.cart))/\(L9.length<=k)/\μ=s.ticks.length-k/\Own w no w' [blk b1 ((vc s.known)++[(.slice a1 s.ents.length c1:Value),(.slice a2 s.ticks.length c2:Value) ]) 38,row (.slice a9 L9.length c9) (L9.map (ic .u16)) 32 1]) ?_ ?_
 ·exact ⟨_,_,0,none,0,[],Qal (Qal (Qap (ds:=([3,5]++sq 12 10)) (Agr.refl _ _)) rfl) rfl,(by omega),rfl,(Nat.le_refl _),rfl,hs⟩
 rintro μ J' w5 ⟨Jo,k,a9,c9,L9,rfl,hk,hL9,hl9,rfl,hs⟩
 refine Qag (Qab (Qaa (Qa2 rfl rfl (Qae (Qag (Qam (t:=decide ((k:Int)<((s.ticks.length:Nat):Int))) rfl (fun c6=>?_) (fun c6=>?_)))))))
 ·
  replace c6:=QQ1 c6
  refine Qao (Qag (Qan (Qag (Qab (Qaa (Qax Qem QbP.1 (Rd.own' hr2 hs) rfl rfl (by omega) (by rw [QQ6];omega) (Qaa (Qbb (j:=0) (vs:=lsc (gd s.ticks k)) k QbP (Rd.own' hr2 hs) (Qba (by omega)) rfl rfl rfl (by omega) (Qaa (QaK (cs:=lsc (⟨0,0⟩:Lst)) QkM rfl hs fun b7 w8 hs=>(Qaa (Qcx (V:=.agg (lsc (gd s.ticks k)).toArray) (vs:=lsc (gd s.ticks k)) (cs':=lsc (gd s.ticks k)) QbP.1 hs 2 rfl rfl rfl rfl rfl (QQ8 rfl) (Qcf _) (Qaz rfl) fun w9 hs=>(Qae (Qab (Qaa (Qac (V:=.slice a9 L9.length c9) rfl (Qaa (Qaf Qec rfl (Qaa (QaQ (V:=I7 ((gd s.ticks k).cart)) Qar hs 2 rfl rfl rfl (Qaa (QhQ (vals:=[I7 ((gd s.ticks k).cart)]) (ls:=List.map (ic .u16) ([(gd s.ticks k).cart]:List Int)) QlN rfl rfl rfl (Qbi (enc:=(ic .u16)) (fun _=>rfl) _) (QaV (Qfq .u16) _) (QQ8 rfl) hs fun b10 w11 hs=>?_))))))))))))))))))))))
  replace hs:Own w no w11 [blk b1 ((vc s.known)++[(.slice a1 s.ents.length c1:Value),(.slice a2 s.ticks.length c2:Value) ]) 38,row (.slice a9 L9.length c9) (L9.map (ic .u16)) 32 1,blk b7 (lsc (gd s.ticks k)) 102,row (.slice (some ⟨b10,0,none⟩) 1 1) ([(gd s.ticks k).cart].map (ic .u16)) 32 1]:=hs
  refine Qaa (Qdi (ls':=(L9++[(gd s.ticks k).cart]).map (ic .u16)) (n:=(L9++[(gd s.ticks k).cart]).length) QlN hs 1 rfl rfl rfl (hs.rd 3 rfl) (QaV (Qfq .u16) _) (by simp only [QQ6,QQ7,List.length_cons,List.length_nil];omega) (by simp) (by simp) fun a12 c12 w13 hs=>(Qaa (Qad (V:=.slice a12 ((L9++[(gd s.ticks k).cart]).length) c12) rfl (Qae (Qab (Qaa (QaF (a:=(k:Int)) (b:=1) (c:=((k+1:Nat):Int)) rfl rfl (Qak (by omega) (by omega)) (Qaa (Qac (V:=I6 ((k+1:Nat):Int)) rfl (Qae ?_))))))))))
  refine ⟨_,?_,_,k+1,a12,c12,L9++[(gd s.ticks k).cart],Qal (Qal (Qap (ds:=([3,5]++sq 12 10)) (by repeat (first|exact Agr.refl _ _|refine Agr.upd ?_ rfl|refine Agr.mix ?_ rfl))) rfl) rfl,(by omega),(Qkn (f:=fun x:Lst=>x.cart) hL9 (by omega)),(by rw [QQ7,List.length_singleton];omega),rfl,hs.take 2⟩
  omega
 replace c6:=QQ2 c6
 refine QaJ (Qag (Qab (Qaa (Qac (V:=.slice a9 L9.length c9) rfl (Qaa (Qad (V:=.slice a9 L9.length c9) rfl (Qae (Qaw ?_))))))))
 refine ⟨_,Qaq (V:=.slice a9 L9.length c9) Tryz.results63 rfl,?_⟩
 have hX:L9=Qay s:=by unfold Qay;rw [if_pos c4,hL9,Qcz (by omega)]
 rw [hX] at hs ⊢
 exact ⟨(a9,c9),rfl,hs.only 1 rfl,trivial⟩
end Tt
end Go.Proofs
namespace Go.Proofs
open Go Go.Vx Go.RowKit
namespace Tt
theorem QfH (w:World) (S:Nat->Prop) (b:Nat) (L:List Dif) (x:Dif) (hR:(Qeo 60 83 b L).holds w S) (hlS:∀ x,S x->x<w.heap.size) (hL:L.length<=100000000):Calls Tryz.prog 65 #[.agg (dfc x).toArray,.pointer (some ⟨b,0,none⟩)] w (fun e w'=>∃ x_:Unit,e = .returned (.tuple #[])/\Own w S w' [Qeo 60 83 b (L++[x])]/\True):=by
 refine Qai (n:=7) Tryz.func65 rfl Tryz.ntmps65 rfl ?_
 obtain ⟨a0,c0,hs⟩:=Qpw hR hlS
 refine Qag (Qab (Qaa (Qa4 (V:=.agg (dfc x).toArray) (cs:=dfc x) rfl rfl hs fun b1 w2 hs=>(Qae (Qab (Qaa (QaQ (V:=.slice a0 L.length c0) Qq4 hs 0 rfl rfl rfl (Qaa (QaL (cs:=dfc x) QfF hs 2 rfl rfl rfl (Qaa (QhQ (vals:=[.agg (dfc x).toArray]) (ls:=List.map dfc ([x]:List Dif)) Qum rfl rfl rfl (Qbi (enc:=dfc) (fun _=>rfl) _) (QaV Qhg _) (QQ8 rfl) hs fun b3 w4 hs=>(Qaa (Qdi (ls':=(L++[x]).map dfc) (n:=(L++[x]).length) Qum hs 1 rfl rfl rfl (hs.rd 3 rfl) (QaV Qhg _) (by simp only [QQ6,QQ7,List.length_cons,List.length_nil];omega) (by simp) (by simp) fun a5 c5 w6 hs=>(Qaa (Qc0 (V:=.slice a5 ((L++[x]).length) c5) (cs':=[.slice a5 ((L++[x]).length) c5]) Qq4 hs 0 rfl rfl rfl rfl (QQ8 rfl) rfl fun w7 hs=>?_)))))))))))))))
 replace hs:Own w S w7 [blk b [.slice a5 ((L++[x]).length) c5] 60,row (.slice a5 ((L++[x]).length) c5) ((L++[x]).map dfc) 83 5,blk b1 (dfc x) 83,row (.slice (some ⟨b3,0,none⟩) 1 1) ([x].map dfc) 83 5]:=hs
 refine Qae ?_
 refine ⟨_,Qbf Tryz.results65,?_⟩
 exact ⟨(),rfl,QoK (hs.two 0 1 (by decide) rfl rfl),trivial⟩
end Tt
end Go.Proofs
