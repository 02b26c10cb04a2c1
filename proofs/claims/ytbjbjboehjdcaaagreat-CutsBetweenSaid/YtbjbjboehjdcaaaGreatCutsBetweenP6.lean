/- A part of a proof: what functions of the program compute, and plain facts on that. -/
import Derived.Test.YtbjbjboehjdcaaaGreatCutsBetweenP5
set_option linter.unusedVariables false
set_option linter.unusedSimpArgs false
set_option maxHeartbeats 4000000
set_option maxRecDepth 100000
namespace Go.Proofs
open Go Go.Vx Go.RowKit
namespace Tt
theorem Qnb (w:World) (S:Nat->Prop) (b:Nat) (L:List Dif) (va:Int) (la:List Line) (ao:Bool) (at_:Int) (aa:Option Addr) (ca:Nat) (vb:Int) (lb:List Line) (bo:Bool) (bt:Int) (ab:Option Addr) (cb:Nat) (hra:QfD la) (hrb:QfD lb) (hna:la.length<=100000) (hnb:lb.length<=100000) (hva:∀ (w1:World) (L1:List Res),Own w S w1 L1->Rd w1 (.slice aa la.length ca) 2 (la.map lc)) (hvb:∀ (w1:World) (L1:List Res),Own w S w1 L1->Rd w1 (.slice ab lb.length cb) 2 (lb.map lc)) (hR:(Qeo 60 83 b L).holds w S) (hlS:∀ x,S x->x<w.heap.size) (hL:L.length<=10000000):Calls Tryz.prog 64 #[.agg #[.int .u16 va,.slice aa la.length ca,.bool ao,.int .u32 at_],.agg #[.int .u16 vb,.slice ab lb.length cb,.bool bo,.int .u32 bt],.func (.func 65) #[] #[.pointer (some ⟨b,0,none⟩)]] w (fun e w'=>∃ x_:Unit,e = .returned (.tuple #[])/\Own w S w' [Qeo 60 83 b (L++QcX (⟨va,la,ao,at_⟩:Vw) (⟨vb,lb,bo,bt⟩:Vw))]/\True):=by
 refine Qai (n:=126) Tryz.func64 rfl Tryz.ntmps64 rfl ?_
 have hs:=Own.lent hR hlS
 refine Qag (Qab (Qaa (Qa4 (V:=.agg #[I7 va,.slice aa la.length ca,.bool ao,.int .u32 at_]) (cs:=[I7 va,.slice aa la.length ca,.bool ao,.int .u32 at_]) rfl rfl hs fun b1 w2 hs=>(Qaa (Qa4 (V:=.agg #[I7 vb,.slice ab lb.length cb,.bool bo,.int .u32 bt]) (cs:=[I7 vb,.slice ab lb.length cb,.bool bo,.int .u32 bt]) rfl rfl hs fun b3 w4 hs=>(Qae (Qag (QaH HM [some 9,some 10,some 11,some 12,some 6,some 7] [] [0,1,0,4,3,31] [pv (Pq b1 (0+1)),pv (.slice aa la.length ca),pv (Pq b3 (0+1)),pv (.slice ab lb.length cb),pv (.slice aa la.length ca),pv (.slice ab lb.length cb)] (fun _ _=>_) [5,4] (by kernel_rfl) hs ⟨?_,?_,?_,?_,?_,?_,trivial⟩ ?_))))))))
 ·exact oa [] fun D J w hs=>Qaf Qev rfl (Zz hs)
 ·exact oa [0] fun D J w hs=>QaQ (V:=.slice aa la.length ca) QiZ hs 1 rfl rfl rfl (Zz hs)
 ·exact oa [] fun D J w hs=>Qaf Qev rfl (Zz hs)
 ·exact oa [2] fun D J w hs=>QaQ (V:=.slice ab lb.length cb) QiZ hs 2 rfl rfl rfl (Zz hs)
 ·exact oa [1] fun D J w hs=>Qad (V:=.slice aa la.length ca) rfl (Zz hs)
 ·exact oa [3] fun D J w hs=>Qad (V:=.slice ab lb.length cb) rfl (Zz hs)
 rintro J1 w5 J2 hJ hs
 replace hJ:J2=upd (upd (mix [9,10,11,12,6,7] J1 _) 6 (.slice aa la.length ca)) 7 (.slice ab lb.length cb):=hJ
 subst hJ
 refine Qag (Qan (QaD (fun J μ J' w'=>∃ (Jo:Env) (R1:List Line) (R2:List Line) (I:List Int) (out:List Dif) (a6:Option Addr) (cb6:Nat) (a7:Option Addr) (cb7:Nat),J'=upd (upd (mix ([6,7,8]++sq 13 97) Jo J) 6 (.slice a6 R1.length cb6)) 7 (.slice a7 R2.length cb7)/\(DifI la lb R1 R2 I)/\(out=L++I.flatMap (Qhc vb la lb))/\(∀ (w1:World) (L1:List Res),Own w S w1 L1->Rd w1 (.slice a6 R1.length cb6) 2 (R1.map lc))/\(∀ (w1:World) (L1:List Res),Own w S w1 L1->Rd w1 (.slice a7 R2.length cb7) 2 (R2.map lc))/\(R1.length<=la.length/\R2.length<=lb.length)/\(out.length+(R1.length+R2.length)<=L.length+(la.length+lb.length))/\μ=R1.length+R2.length/\Own w S w' [Qeo 60 83 b out,blk b1 [I7 va,.slice aa la.length ca,.bool ao,.int .u32 at_] 49,blk b3 [I7 vb,.slice ab lb.length cb,.bool bo,.int .u32 bt] 49]) ?_ ?_))
 ·exact ⟨_,_,la,lb,[],L,aa,ca,ab,cb,Qal (Qal (Qap (ds:=([6,7,8]++sq 13 97)) (Agr.refl _ _)) rfl) rfl,(Qlm _ _),(by simp),hva,hvb,(by omega),(by omega),rfl,hs⟩
 rintro μ J' w6 ⟨Jo,R1,R2,I,out,a6,cb6,a7,cb7,rfl,hdi,hout,hv6,hv7,hll,hol,rfl,hs⟩
 have hrr:=Qpn hra hrb hdi
 have hmm:=QoL hdi
 refine Qag (Qag (Qbw [some 13,some 14,some 15,some 16,some 17,some 18,some 19,some 20] [] [0,1,3,7,15,31,63,127] [pv (.slice a6 R1.length cb6),pv (I6 ((R1.length:Nat):Int)),pv (.bool (decide (0<((R1.length:Nat):Int)))),pv (.bool (decide (0<((R1.length:Nat):Int)))),pg ((decide (0<((R1.length:Nat):Int))) == false) (.slice a7 R2.length cb7),pg ((decide (0<((R1.length:Nat):Int))) == false) (I6 ((R2.length:Nat):Int)),pg ((decide (0<((R1.length:Nat):Int))) == false) (.bool (decide (0<((R2.length:Nat):Int)))),pv (.bool ((decide (0<((R1.length:Nat):Int)))||(decide (0<((R2.length:Nat):Int)))))] (fun _ _=>_) [7] (by kernel_rfl) hs ⟨?_,?_,?_,?_,?_,?_,?_,?_,trivial⟩ ?_))
 ·exact oa [] fun D J w hs=>Qac (V:=.slice a6 R1.length cb6) rfl (Zz hs)
 ·exact oa [0] fun D J w hs=>Qa3 (n:=R1.length) Qdy (hv6 _ _ hs) (by simp) rfl (Zz hs)
 ·exact oa [1] fun D J w hs=>Qb2 rfl rfl (Zz hs)
 ·exact oa [2] fun D J w hs=>Qac (V:=.bool (decide (0<((R1.length:Nat):Int)))) rfl (Zz hs)
 ·exact og [3] fun D J w hG hs=>Qac (V:=.slice a7 R2.length cb7) rfl (Zz hs)
 ·exact oy [3,4] [4] fun D J w hG hs=>Qa3 (n:=R2.length) Qdy (hv7 _ _ hs) (by simp) rfl (Zz hs)
 ·exact oy [3,5] [5] fun D J w hG hs=>Qb2 rfl rfl (Zz hs)
 ·exact oa [3,6] fun D J w hs=>Qcs (h':=decide (0<((R2.length:Nat):Int))) rfl rfl rfl (Zz hs)
 rintro J1 w7 J2 hJ hs
 replace hJ:J2=upd (mix (sq 13 8) J1 _) 20 (.bool ((decide (0<((R1.length:Nat):Int)))||(decide (0<((R2.length:Nat):Int))))):=hJ
 subst hJ
 refine Qam (t:=(decide (0<((R1.length:Nat):Int)))||(decide (0<((R2.length:Nat):Int)))) rfl (fun c8=>?_) (fun c8=>?_)
 ·
  refine Qao (Qan (Qag (Qab (Qaa (Qaf QnG rfl (Qaa (QaQ (V:=I7 vb) Qar hs 2 rfl rfl rfl (Qaa (QbD (vs:=[(0,I7 vb)]) (cs:=dfc (⟨vb,0,false,0,0⟩:Dif)) QmH (rfl) rfl (Qaa (QaK (cs:=dfc (⟨0,0,false,0,0⟩:Dif)) Qud rfl hs fun b9 w10 hs=>(Qaa (Qcx (V:=.agg (dfc (⟨vb,0,false,0,0⟩:Dif)).toArray) (vs:=dfc (⟨vb,0,false,0,0⟩:Dif)) (cs':=dfc (⟨vb,0,false,0,0⟩:Dif)) QfF.1 hs 3 rfl rfl rfl rfl rfl (QQ8 rfl) (Qhg _) (Qaz rfl) fun w11 hs=>?_)))))))))))))
  replace hs:Own w S w11 [Qeo 60 83 b out,blk b1 [I7 va,.slice aa la.length ca,.bool ao,.int .u32 at_] 49,blk b3 [I7 vb,.slice ab lb.length cb,.bool bo,.int .u32 bt] 49,blk b9 (dfc (⟨vb,0,false,0,0⟩:Dif)) 83]:=hs
  refine Qae (Qag (Qan (Qag (QaH HM [some 44,some 45,some 46,some 47,some 48,some 49,some 50,some 51,some 52,some 53,some 54,some 55,some 56,some 57,some 58,some 59,some 60,some 61,some 62,some 43] [] [0,1,3,7,15,31,63,127,255,511,1023,2047,255,4351,12543,28927,65535,131071,262143,524287] [pv (.slice a7 R2.length cb7),pv (I6 ((R2.length:Nat):Int)),pv (.bool (decide (((R2.length:Nat):Int)=0))),pv (.bool (decide (((R2.length:Nat):Int)=0))),pg ((decide (((R2.length:Nat):Int)=0)) == false) (.slice a6 R1.length cb6),pg ((decide (((R2.length:Nat):Int)=0)) == false) (I6 ((R1.length:Nat):Int)),pg ((decide (((R2.length:Nat):Int)=0)) == false) (.bool (decide (0<((R1.length:Nat):Int)))),pg ((decide (((R2.length:Nat):Int)=0)) == false) (.bool (decide (0<((R1.length:Nat):Int)))),pg (((decide (((R2.length:Nat):Int)=0)) == false)&&((decide (0<((R1.length:Nat):Int))) == true)) (.slice a6 R1.length cb6),pg (((decide (((R2.length:Nat):Int)=0)) == false)&&((decide (0<((R1.length:Nat):Int))) == true)) (.pointer (some ⟨bkS (.slice a6 R1.length cb6),ofS (.slice a6 R1.length cb6)+(0:Int).toNat*2,none⟩)),pg (((decide (((R2.length:Nat):Int)=0)) == false)&&((decide (0<((R1.length:Nat):Int))) == true)) (.pointer (some ⟨bkS (.slice a6 R1.length cb6),ofS (.slice a6 R1.length cb6)+(0:Int).toNat*2+0,none⟩)),pg (((decide (((R2.length:Nat):Int)=0)) == false)&&((decide (0<((R1.length:Nat):Int))) == true)) (I7 ((gd R1 0).item)),pg (((decide (((R2.length:Nat):Int)=0)) == false)&&((decide (0<((R1.length:Nat):Int))) == true)) (.slice a7 R2.length cb7),pg (((decide (((R2.length:Nat):Int)=0)) == false)&&((decide (0<((R1.length:Nat):Int))) == true)) (.pointer (some ⟨bkS (.slice a7 R2.length cb7),ofS (.slice a7 R2.length cb7)+(0:Int).toNat*2,none⟩)),pg (((decide (((R2.length:Nat):Int)=0)) == false)&&((decide (0<((R1.length:Nat):Int))) == true)) (.pointer (some ⟨bkS (.slice a7 R2.length cb7),ofS (.slice a7 R2.length cb7)+(0:Int).toNat*2+0,none⟩)),pg (((decide (((R2.length:Nat):Int)=0)) == false)&&((decide (0<((R1.length:Nat):Int))) == true)) (I7 ((gd R2 0).item)),pg (((decide (((R2.length:Nat):Int)=0)) == false)&&((decide (0<((R1.length:Nat):Int))) == true)) (.bool (decide ((gd R1 0).item<(gd R2 0).item))),pg ((decide (((R2.length:Nat):Int)=0)) == false) (.bool ((decide (0<((R1.length:Nat):Int)))&&(decide ((gd R1 0).item<(gd R2 0).item)))),pv (.bool ((decide (((R2.length:Nat):Int)=0))||((decide (0<((R1.length:Nat):Int)))&&(decide ((gd R1 0).item<(gd R2 0).item))))),pv (.bool ((decide (((R2.length:Nat):Int)=0))||((decide (0<((R1.length:Nat):Int)))&&(decide ((gd R1 0).item<(gd R2 0).item)))))] (fun _ _=>_) [19] (by kernel_rfl) hs ⟨?_,?_,?_,?_,?_,?_,?_,?_,?_,?_,?_,?_,?_,?_,?_,?_,?_,?_,?_,?_,trivial⟩ ?_))))
  ·exact oa [] fun D J w hs=>Qac (V:=.slice a7 R2.length cb7) rfl (Zz hs)
  ·exact oa [0] fun D J w hs=>Qa3 (n:=R2.length) Qdy (hv7 _ _ hs) (by simp) rfl (Zz hs)
  ·exact oa [1] fun D J w hs=>QaZ rfl rfl (Zz hs)
  ·exact oa [2] fun D J w hs=>Qac (V:=.bool (decide (((R2.length:Nat):Int)=0))) rfl (Zz hs)
  ·exact og [3] fun D J w hG hs=>Qac (V:=.slice a6 R1.length cb6) rfl (Zz hs)
  ·exact oy [3,4] [4] fun D J w hG hs=>Qa3 (n:=R1.length) Qdy (hv6 _ _ hs) (by simp) rfl (Zz hs)
  ·exact oy [3,5] [5] fun D J w hG hs=>Qb2 rfl rfl (Zz hs)
  ·exact oy [3,6] [6] fun D J w hG hs=>Qac (V:=.bool (decide (0<((R1.length:Nat):Int)))) rfl (Zz hs)
  ·exact og [7] fun D J w hG hs=>Qac (V:=.slice a6 R1.length cb6) rfl (Zz hs)
  ·refine oy [7,8] [8] fun D J w hG hs=>?_
   have hgd0:=QQ2 (eq_of_beq (Qb3 (hG)))
   have hgd1:=QQ1 (eq_of_beq (Qcy (hG)))
   exact Qax Qdy Qct.1 (hv6 _ _ hs) rfl rfl (by decide) (by rw [QQ6];omega) (Zz hs)
  ·exact oy [7,9] [9] fun D J w hG hs=>Qaf Qdf rfl (Zz hs)
  ·refine oy [7,10] [10] fun D J w hG hs=>?_
   have hgd0:=QQ2 (eq_of_beq (Qb3 (hG)))
   have hgd1:=QQ1 (eq_of_beq (Qcy (hG)))
   exact QaW (j:=0) (V:=.int .u16 ((gd R1 0).item)) 0 Qar (hv6 _ _ hs) (Qba (by omega)) rfl rfl (by omega) (Zz hs)
  ·exact og [7] fun D J w hG hs=>Qac (V:=.slice a7 R2.length cb7) rfl (Zz hs)
  ·refine oy [7,12] [12] fun D J w hG hs=>?_
   have hgd0:=QQ2 (eq_of_beq (Qb3 (hG)))
   have hgd1:=QQ1 (eq_of_beq (Qcy (hG)))
   exact Qax Qdy Qct.1 (hv7 _ _ hs) rfl rfl (by decide) (by rw [QQ6];omega) (Zz hs)
  ·exact oy [7,13] [13] fun D J w hG hs=>Qaf Qdf rfl (Zz hs)
  ·refine oy [7,14] [14] fun D J w hG hs=>?_
   have hgd0:=QQ2 (eq_of_beq (Qb3 (hG)))
   have hgd1:=QQ1 (eq_of_beq (Qcy (hG)))
   exact QaW (j:=0) (V:=.int .u16 ((gd R2 0).item)) 0 Qar (hv7 _ _ hs) (Qba (by omega)) rfl rfl (by omega) (Zz hs)
  ·exact oy [7,11,15] [11,15] fun D J w hG hs=>Qa2 rfl rfl (Zz hs)
  ·exact oy [3,7,16] [7] fun D J w hG hs=>Qj9 (h':=decide ((gd R1 0).item<(gd R2 0).item)) (G:=((decide (((R2.length:Nat):Int)=0)) == false)) hG rfl rfl rfl (Zz hs)
  ·exact oa [3,17] fun D J w hs=>Qcs (h':=(decide (0<((R1.length:Nat):Int)))&&(decide ((gd R1 0).item<(gd R2 0).item))) rfl rfl rfl (Zz hs)
  ·exact oa [18] fun D J w hs=>Qad (V:=.bool ((decide (((R2.length:Nat):Int)=0))||((decide (0<((R1.length:Nat):Int)))&&(decide ((gd R1 0).item<(gd R2 0).item))))) rfl (Zz hs)
  rintro J1 w12 J2 hJ hs
  replace hJ:J2=upd (mix (sq 44 19++[43]) J1 _) 43 (.bool ((decide (((R2.length:Nat):Int)=0))||((decide (0<((R1.length:Nat):Int)))&&(decide ((gd R1 0).item<(gd R2 0).item))))):=hJ
  subst hJ
  refine Qam (t:=(decide (((R2.length:Nat):Int)=0))||((decide (0<((R1.length:Nat):Int)))&&(decide ((gd R1 0).item<(gd R2 0).item)))) rfl (fun c13=>?_) (fun c13=>?_)
  ·
   refine Qag ?_
   have ⟨hn9,hz9⟩:=QvK c8 c13
   refine QaH HM [some 63,some 64,some 65,some 66,some 67,some 68,some 69,some 70,some 71,none,some 72,none] [] [0,1,3,7,0,16,48,112,15,271,1023,2047] [pv (.slice a6 R1.length cb6),pv (.pointer (some ⟨bkS (.slice a6 R1.length cb6),ofS (.slice a6 R1.length cb6)+(0:Int).toNat*2,none⟩)),pv (.pointer (some ⟨bkS (.slice a6 R1.length cb6),ofS (.slice a6 R1.length cb6)+(0:Int).toNat*2+0,none⟩)),pv (I7 ((gd R1 0).item)),pv (.slice a6 R1.length cb6),pv (.pointer (some ⟨bkS (.slice a6 R1.length cb6),ofS (.slice a6 R1.length cb6)+(0:Int).toNat*2,none⟩)),pv (.pointer (some ⟨bkS (.slice a6 R1.length cb6),ofS (.slice a6 R1.length cb6)+(0:Int).toNat*2+1,none⟩)),pv (.int .u32 ((gd R1 0).qty)),pv (Pq b9 (0+1)),pn,pv (Pq b9 (0+3)),pn] (fun D J=>[Qeo 60 83 b out,blk b1 [I7 va,.slice aa la.length ca,.bool ao,.int .u32 at_] 49,blk b3 [I7 vb,.slice ab lb.length cb,.bool bo,.int .u32 bt] 49,cond (D 11) (blk b9 (dfc (⟨vb,(gd R1 0).item,false,(gd R1 0).qty,0⟩:Dif)) 83) (cond (D 9) (blk b9 (dfc (⟨vb,(gd R1 0).item,false,0,0⟩:Dif)) 83) (blk b9 (dfc (⟨vb,0,false,0,0⟩:Dif)) 83))]) [] (by kernel_rfl) hs ⟨?_,?_,?_,?_,?_,?_,?_,?_,?_,?_,?_,?_,trivial⟩ ?_
   ·exact oa [] fun D J w hs=>Qac (V:=.slice a6 R1.length cb6) rfl (Zz hs)
   ·exact oa [0] fun D J w hs=>Qax Qdy Qct.1 (hv6 _ _ hs) rfl rfl (by decide) (by rw [QQ6];omega) (Zz hs)
   ·exact oa [1] fun D J w hs=>Qaf Qdf rfl (Zz hs)
   ·exact oa [2] fun D J w hs=>QaW (j:=0) (V:=.int .u16 ((gd R1 0).item)) 0 Qar (hv6 _ _ hs) (Qba (by omega)) rfl rfl (by omega) (Zz hs)
   ·exact oa [] fun D J w hs=>Qac (V:=.slice a6 R1.length cb6) rfl (Zz hs)
   ·exact oa [4] fun D J w hs=>Qax Qdy Qct.1 (hv6 _ _ hs) rfl rfl (by decide) (by rw [QQ6];omega) (Zz hs)
   ·exact oa [5] fun D J w hs=>Qaf QeO rfl (Zz hs)
   ·exact oa [6] fun D J w hs=>QaW (j:=1) (V:=.int .u32 ((gd R1 0).qty)) 0 QaX (hv6 _ _ hs) (Qba (by omega)) rfl rfl (by omega) (Zz hs)
   ·exact oa [] fun D J w hs=>Qaf Qjk rfl (Zz hs)
   ·exact ob [3,8] [11] rfl rfl fun D J w hs=>Qc0 (V:=I7 ((gd R1 0).item)) (cs':=dfc (⟨vb,(gd R1 0).item,false,0,0⟩:Dif)) Qar hs 3 rfl rfl rfl rfl (QQ8 rfl) rfl fun _ hs=>⟨trivial,hs⟩
   ·exact oa [] fun D J w hs=>Qaf Qf1 rfl (Zz hs)
   ·exact oa [7,9,10] fun D J w hs=>Qc0 (V:=.int .u32 ((gd R1 0).qty)) (cs':=dfc (⟨vb,(gd R1 0).item,false,(gd R1 0).qty,0⟩:Dif)) QaX hs 3 rfl rfl rfl rfl (QQ8 rfl) rfl fun _ hs=>⟨trivial,hs⟩
   rintro J1 w16 J2 hJ hs
   replace hJ:J2=mix (sq 63 10) J1 _:=hJ
   replace hs:Own w S w16 [Qeo 60 83 b out,blk b1 [I7 va,.slice aa la.length ca,.bool ao,.int .u32 at_] 49,blk b3 [I7 vb,.slice ab lb.length cb,.bool bo,.int .u32 bt] 49,blk b9 (dfc (⟨vb,(gd R1 0).item,false,(gd R1 0).qty,0⟩:Dif)) 83]:=hs
   subst hJ
   refine Qab (Qaa (Qac (V:=.slice a6 R1.length cb6) rfl (Qaa (QkQ (l:=1) (h:=R1.length) (m:=cb6) (n':=(R1.drop 1).length) Qkv Qct.1 (hv6 _ _ hs) rfl (.inr ⟨_,_,rfl,rfl⟩) (.inl ⟨rfl,rfl⟩) (.inl ⟨rfl,rfl⟩) (by omega) (by omega) (Nat.le_trans (show R1.length<=R1.length by omega) (Rd.roomM (hv6 _ _ hs))) (Nat.le_refl _) (by simp only [List.length_take,List.length_drop]<;>omega) ?_))))
   refine Qaa (Qad (V:=.slice (sla a6 1 cb6 2) ((R1.drop 1).length) (cb6-1)) rfl (Qae (Qag (Qab (Qaa (Qaf Qf1 rfl (Qaa (QaQ (V:=.int .u32 ((gd R1 0).qty)) QaX hs 3 rfl rfl rfl (Qaa (Qaf Qgn rfl (Qaa (QaQ (V:=.int .u32 0) QaX hs 3 rfl rfl rfl (Qaa (Qcv rfl rfl (Qae (Qam (t:=!decide ((gd R1 0).qty=0)) rfl (fun c17=>?_) (fun c17=>?_)))))))))))))))))
   ·
    replace c17:=Qby c17
    replace c17:=QQ2 c17
    refine Qab (Qaa (Qac (V:=.func (.func 65) #[] #[Pq b 0]) rfl (Qaa (QaL (cs:=dfc (⟨vb,(gd R1 0).item,false,(gd R1 0).qty,0⟩:Dif)) QfF hs 3 rfl rfl rfl (Qaa (QpT (α:=Unit) (vs:=[.agg (dfc (⟨vb,(gd R1 0).item,false,(gd R1 0).qty,0⟩:Dif)).toArray]) (cs:=[Pq b 0]) (V:=fun _=>.tuple #[]) (R:=Qeo 60 83 b out) (R':=fun _=>Qeo 60 83 b (out++[(⟨vb,(gd R1 0).item,false,(gd R1 0).qty,0⟩:Dif)])) (Lo:=fun _=>[]) (F:=fun _ _=>True) QpB rfl rfl hs 0 rfl (fun S hS hlS=>QfH _ S b out (⟨vb,(gd R1 0).item,false,(gd R1 0).qty,0⟩:Dif) hS hlS (by omega)) fun _ w18 hs _=>(Qae ?_)))))))
    have hd9:=QmN hra hrb hdi (by omega) (QfO hrr.2 hz9)
    refine ⟨_,?_,_,R1.drop 1,R2,I++[(gd R1 0).item],(out++[(⟨vb,(gd R1 0).item,false,(gd R1 0).qty,0⟩:Dif)]),(sla a6 1 cb6 2),cb6-1,a7,cb7,Qal (Qal (Qap (ds:=([6,7,8]++sq 13 97)) (by repeat (first|exact Agr.refl _ _|refine Agr.upd ?_ rfl|refine Agr.mix ?_ rfl))) rfl) rfl,hd9.1,(Qhq hout hd9.2.1 hd9.2.2 c17),(fun w1 L1 h=>Rd.dropM (hv6 w1 L1 h) 1 (by omega) _ (by rw [List.length_drop])),hv7,(by simp only [List.length_drop];omega),(by simp only [QQ7,List.length_singleton,List.length_drop];omega),rfl,hs.take 3⟩
    (simp only [List.length_drop];omega)
   replace c17:=Qbu c17
   replace c17:=QQ1 c17
   refine Qao ?_
   have hd9:=QmN hra hrb hdi (by omega) (QfO hrr.2 hz9)
   refine ⟨_,?_,_,R1.drop 1,R2,I++[(gd R1 0).item],out,(sla a6 1 cb6 2),cb6-1,a7,cb7,Qal (Qal (Qap (ds:=([6,7,8]++sq 13 97)) (by repeat (first|exact Agr.refl _ _|refine Agr.upd ?_ rfl|refine Agr.mix ?_ rfl))) rfl) rfl,hd9.1,(Qnz hout hd9.2.1 hd9.2.2 c17),(fun w1 L1 h=>Rd.dropM (hv6 w1 L1 h) 1 (by omega) _ (by rw [List.length_drop])),hv7,(by simp only [List.length_drop];omega),(by simp only [List.length_drop];omega),rfl,hs.take 3⟩
   (simp only [List.length_drop];omega)
  have c13r:=QgD c13
  replace c13:=QgK c13
  replace c13:=QQ2 c13
  refine Qag ?_
  have hn9:0<R2.length:=by omega
  refine QaH HM [some 76,some 77,some 78,some 79,some 80,some 81,some 82,some 83,some 84,some 85,some 86,some 87,some 88,some 89,some 75] [] [0,1,3,7,15,31,63,127,15,271,783,1807,4095,8191,16383] [pv (.slice a6 R1.length cb6),pv (I6 ((R1.length:Nat):Int)),pv (.bool (decide (((R1.length:Nat):Int)=0))),pv (.bool (decide (((R1.length:Nat):Int)=0))),pg ((decide (((R1.length:Nat):Int)=0)) == false) (.slice a7 R2.length cb7),pg ((decide (((R1.length:Nat):Int)=0)) == false) (.pointer (some ⟨bkS (.slice a7 R2.length cb7),ofS (.slice a7 R2.length cb7)+(0:Int).toNat*2,none⟩)),pg ((decide (((R1.length:Nat):Int)=0)) == false) (.pointer (some ⟨bkS (.slice a7 R2.length cb7),ofS (.slice a7 R2.length cb7)+(0:Int).toNat*2+0,none⟩)),pg ((decide (((R1.length:Nat):Int)=0)) == false) (I7 ((gd R2 0).item)),pg ((decide (((R1.length:Nat):Int)=0)) == false) (.slice a6 R1.length cb6),pg ((decide (((R1.length:Nat):Int)=0)) == false) (.pointer (some ⟨bkS (.slice a6 R1.length cb6),ofS (.slice a6 R1.length cb6)+(0:Int).toNat*2,none⟩)),pg ((decide (((R1.length:Nat):Int)=0)) == false) (.pointer (some ⟨bkS (.slice a6 R1.length cb6),ofS (.slice a6 R1.length cb6)+(0:Int).toNat*2+0,none⟩)),pg ((decide (((R1.length:Nat):Int)=0)) == false) (I7 ((gd R1 0).item)),pg ((decide (((R1.length:Nat):Int)=0)) == false) (.bool (decide ((gd R2 0).item<(gd R1 0).item))),pv (.bool ((decide (((R1.length:Nat):Int)=0))||(decide ((gd R2 0).item<(gd R1 0).item)))),pv (.bool ((decide (((R1.length:Nat):Int)=0))||(decide ((gd R2 0).item<(gd R1 0).item))))] (fun _ _=>_) [14] (by kernel_rfl) hs ⟨?_,?_,?_,?_,?_,?_,?_,?_,?_,?_,?_,?_,?_,?_,?_,trivial⟩ ?_
  ·exact oa [] fun D J w hs=>Qac (V:=.slice a6 R1.length cb6) rfl (Zz hs)
  ·exact oa [0] fun D J w hs=>Qa3 (n:=R1.length) Qdy (hv6 _ _ hs) (by simp) rfl (Zz hs)
  ·exact oa [1] fun D J w hs=>QaZ rfl rfl (Zz hs)
  ·exact oa [2] fun D J w hs=>Qac (V:=.bool (decide (((R1.length:Nat):Int)=0))) rfl (Zz hs)
  ·exact og [3] fun D J w hG hs=>Qac (V:=.slice a7 R2.length cb7) rfl (Zz hs)
  ·refine oy [3,4] [4] fun D J w hG hs=>?_
   have hgd:=QQ2 (eq_of_beq (hG))
   exact Qax Qdy Qct.1 (hv7 _ _ hs) rfl rfl (by decide) (by rw [QQ6];omega) (Zz hs)
  ·exact oy [3,5] [5] fun D J w hG hs=>Qaf Qdf rfl (Zz hs)
  ·refine oy [3,6] [6] fun D J w hG hs=>?_
   have hgd:=QQ2 (eq_of_beq (hG))
   exact QaW (j:=0) (V:=.int .u16 ((gd R2 0).item)) 0 Qar (hv7 _ _ hs) (Qba (by omega)) rfl rfl (by omega) (Zz hs)
  ·exact og [3] fun D J w hG hs=>Qac (V:=.slice a6 R1.length cb6) rfl (Zz hs)
  ·refine oy [3,8] [8] fun D J w hG hs=>?_
   have hgd:=QQ2 (eq_of_beq (hG))
   exact Qax Qdy Qct.1 (hv6 _ _ hs) rfl rfl (by decide) (by rw [QQ6];omega) (Zz hs)
  ·exact oy [3,9] [9] fun D J w hG hs=>Qaf Qdf rfl (Zz hs)
  ·refine oy [3,10] [10] fun D J w hG hs=>?_
   have hgd:=QQ2 (eq_of_beq (hG))
   exact QaW (j:=0) (V:=.int .u16 ((gd R1 0).item)) 0 Qar (hv6 _ _ hs) (Qba (by omega)) rfl rfl (by omega) (Zz hs)
  ·exact oy [3,7,11] [7,11] fun D J w hG hs=>Qa2 rfl rfl (Zz hs)
  ·exact oa [3,12] fun D J w hs=>Qcs (h':=decide ((gd R2 0).item<(gd R1 0).item)) rfl rfl rfl (Zz hs)
  ·exact oa [13] fun D J w hs=>Qad (V:=.bool ((decide (((R1.length:Nat):Int)=0))||(decide ((gd R2 0).item<(gd R1 0).item)))) rfl (Zz hs)
  rintro J1 w19 J2 hJ hs
  replace hJ:J2=upd (mix (sq 76 14++[75]) J1 _) 75 (.bool ((decide (((R1.length:Nat):Int)=0))||(decide ((gd R2 0).item<(gd R1 0).item)))):=hJ
  subst hJ
  refine Qam (t:=(decide (((R1.length:Nat):Int)=0))||(decide ((gd R2 0).item<(gd R1 0).item))) rfl (fun c20=>?_) (fun c20=>?_)
  ·
   refine Qag ?_
   have hz9:=Qvp hn9 c20
   refine QaH HM [some 90,some 91,some 92,some 93,some 94,some 95,some 96,some 97,some 98,none,some 99,none] [] [0,1,3,7,0,16,48,112,15,271,1023,2047] [pv (.slice a7 R2.length cb7),pv (.pointer (some ⟨bkS (.slice a7 R2.length cb7),ofS (.slice a7 R2.length cb7)+(0:Int).toNat*2,none⟩)),pv (.pointer (some ⟨bkS (.slice a7 R2.length cb7),ofS (.slice a7 R2.length cb7)+(0:Int).toNat*2+0,none⟩)),pv (I7 ((gd R2 0).item)),pv (.slice a7 R2.length cb7),pv (.pointer (some ⟨bkS (.slice a7 R2.length cb7),ofS (.slice a7 R2.length cb7)+(0:Int).toNat*2,none⟩)),pv (.pointer (some ⟨bkS (.slice a7 R2.length cb7),ofS (.slice a7 R2.length cb7)+(0:Int).toNat*2+1,none⟩)),pv (.int .u32 ((gd R2 0).qty)),pv (Pq b9 (0+1)),pn,pv (Pq b9 (0+4)),pn] (fun D J=>[Qeo 60 83 b out,blk b1 [I7 va,.slice aa la.length ca,.bool ao,.int .u32 at_] 49,blk b3 [I7 vb,.slice ab lb.length cb,.bool bo,.int .u32 bt] 49,cond (D 11) (blk b9 (dfc (⟨vb,(gd R2 0).item,false,0,(gd R2 0).qty⟩:Dif)) 83) (cond (D 9) (blk b9 (dfc (⟨vb,(gd R2 0).item,false,0,0⟩:Dif)) 83) (blk b9 (dfc (⟨vb,0,false,0,0⟩:Dif)) 83))]) [] (by kernel_rfl) hs ⟨?_,?_,?_,?_,?_,?_,?_,?_,?_,?_,?_,?_,trivial⟩ ?_
   ·exact oa [] fun D J w hs=>Qac (V:=.slice a7 R2.length cb7) rfl (Zz hs)
   ·exact oa [0] fun D J w hs=>Qax Qdy Qct.1 (hv7 _ _ hs) rfl rfl (by decide) (by rw [QQ6];omega) (Zz hs)
   ·exact oa [1] fun D J w hs=>Qaf Qdf rfl (Zz hs)
   ·exact oa [2] fun D J w hs=>QaW (j:=0) (V:=.int .u16 ((gd R2 0).item)) 0 Qar (hv7 _ _ hs) (Qba (by omega)) rfl rfl (by omega) (Zz hs)
   ·exact oa [] fun D J w hs=>Qac (V:=.slice a7 R2.length cb7) rfl (Zz hs)
   ·exact oa [4] fun D J w hs=>Qax Qdy Qct.1 (hv7 _ _ hs) rfl rfl (by decide) (by rw [QQ6];omega) (Zz hs)
   ·exact oa [5] fun D J w hs=>Qaf QeO rfl (Zz hs)
   ·exact oa [6] fun D J w hs=>QaW (j:=1) (V:=.int .u32 ((gd R2 0).qty)) 0 QaX (hv7 _ _ hs) (Qba (by omega)) rfl rfl (by omega) (Zz hs)
   ·exact oa [] fun D J w hs=>Qaf Qjk rfl (Zz hs)
   ·exact ob [3,8] [11] rfl rfl fun D J w hs=>Qc0 (V:=I7 ((gd R2 0).item)) (cs':=dfc (⟨vb,(gd R2 0).item,false,0,0⟩:Dif)) Qar hs 3 rfl rfl rfl rfl (QQ8 rfl) rfl fun _ hs=>⟨trivial,hs⟩
   ·exact oa [] fun D J w hs=>Qaf Qgn rfl (Zz hs)
   ·exact oa [7,9,10] fun D J w hs=>Qc0 (V:=.int .u32 ((gd R2 0).qty)) (cs':=dfc (⟨vb,(gd R2 0).item,false,0,(gd R2 0).qty⟩:Dif)) QaX hs 3 rfl rfl rfl rfl (QQ8 rfl) rfl fun _ hs=>⟨trivial,hs⟩
   rintro J1 w23 J2 hJ hs
   replace hJ:J2=mix (sq 90 10) J1 _:=hJ
   replace hs:Own w S w23 [Qeo 60 83 b out,blk b1 [I7 va,.slice aa la.length ca,.bool ao,.int .u32 at_] 49,blk b3 [I7 vb,.slice ab lb.length cb,.bool bo,.int .u32 bt] 49,blk b9 (dfc (⟨vb,(gd R2 0).item,false,0,(gd R2 0).qty⟩:Dif)) 83]:=hs
   subst hJ
   refine Qab (Qaa (Qac (V:=.slice a7 R2.length cb7) rfl (Qaa (QkQ (l:=1) (h:=R2.length) (m:=cb7) (n':=(R2.drop 1).length) Qkv Qct.1 (hv7 _ _ hs) rfl (.inr ⟨_,_,rfl,rfl⟩) (.inl ⟨rfl,rfl⟩) (.inl ⟨rfl,rfl⟩) (by omega) (by omega) (Nat.le_trans (show R2.length<=R2.length by omega) (Rd.roomM (hv7 _ _ hs))) (Nat.le_refl _) (by simp only [List.length_take,List.length_drop]<;>omega) ?_))))
   refine Qaa (Qad (V:=.slice (sla a7 1 cb7 2) ((R2.drop 1).length) (cb7-1)) rfl (Qae (Qag (Qab (Qaa (Qaf Qf1 rfl (Qaa (QaQ (V:=.int .u32 0) QaX hs 3 rfl rfl rfl (Qaa (Qaf Qgn rfl (Qaa (QaQ (V:=.int .u32 ((gd R2 0).qty)) QaX hs 3 rfl rfl rfl (Qaa (Qcv rfl rfl (Qae (Qam (t:=!decide (0=(gd R2 0).qty)) rfl (fun c24=>?_) (fun c24=>?_)))))))))))))))))
   ·
    replace c24:=Qby c24
    replace c24:=QQ2 c24
    refine Qab (Qaa (Qac (V:=.func (.func 65) #[] #[Pq b 0]) rfl (Qaa (QaL (cs:=dfc (⟨vb,(gd R2 0).item,false,0,(gd R2 0).qty⟩:Dif)) QfF hs 3 rfl rfl rfl (Qaa (QpT (α:=Unit) (vs:=[.agg (dfc (⟨vb,(gd R2 0).item,false,0,(gd R2 0).qty⟩:Dif)).toArray]) (cs:=[Pq b 0]) (V:=fun _=>.tuple #[]) (R:=Qeo 60 83 b out) (R':=fun _=>Qeo 60 83 b (out++[(⟨vb,(gd R2 0).item,false,0,(gd R2 0).qty⟩:Dif)])) (Lo:=fun _=>[]) (F:=fun _ _=>True) QpB rfl rfl hs 0 rfl (fun S hS hlS=>QfH _ S b out (⟨vb,(gd R2 0).item,false,0,(gd R2 0).qty⟩:Dif) hS hlS (by omega)) fun _ w25 hs _=>(Qae ?_)))))))
    have hd9:=Qqg hra hrb hdi (by omega) (QfO hrr.1 hz9)
    refine ⟨_,?_,_,R1,R2.drop 1,I++[(gd R2 0).item],(out++[(⟨vb,(gd R2 0).item,false,0,(gd R2 0).qty⟩:Dif)]),a6,cb6,(sla a7 1 cb7 2),cb7-1,Qal (Qal (Qap (ds:=([6,7,8]++sq 13 97)) (by repeat (first|exact Agr.refl _ _|refine Agr.upd ?_ rfl|refine Agr.mix ?_ rfl))) rfl) rfl,hd9.1,(Qhq hout hd9.2.1 hd9.2.2 c24),hv6,(fun w1 L1 h=>Rd.dropM (hv7 w1 L1 h) 1 (by omega) _ (by rw [List.length_drop])),(by simp only [List.length_drop];omega),(by simp only [QQ7,List.length_singleton,List.length_drop];omega),rfl,hs.take 3⟩
    (simp only [List.length_drop];omega)
   replace c24:=Qbu c24
   replace c24:=QQ1 c24
   refine Qao ?_
   have hd9:=Qqg hra hrb hdi (by omega) (QfO hrr.1 hz9)
   refine ⟨_,?_,_,R1,R2.drop 1,I++[(gd R2 0).item],out,a6,cb6,(sla a7 1 cb7 2),cb7-1,Qal (Qal (Qap (ds:=([6,7,8]++sq 13 97)) (by repeat (first|exact Agr.refl _ _|refine Agr.upd ?_ rfl|refine Agr.mix ?_ rfl))) rfl) rfl,hd9.1,(Qnz hout hd9.2.1 hd9.2.2 c24),hv6,(fun w1 L1 h=>Rd.dropM (hv7 w1 L1 h) 1 (by omega) _ (by rw [List.length_drop])),(by simp only [List.length_drop];omega),(by simp only [List.length_drop];omega),rfl,hs.take 3⟩
   (simp only [List.length_drop];omega)
  have c20r:=QgD c20
  replace c20:=QgK c20
  replace c20:=QQ2 c20
  replace c20r:=QQ2 c20r
  refine Qag ?_
  have hz9:=QvT c13r (by omega) (by omega)
  refine QaH HM [some 24,some 25,some 26,some 27,some 28,some 29,some 30,some 31,some 32,some 33,some 34,some 35,some 36,none,some 37,none,some 38,none] [] [0,1,3,7,0,16,48,112,0,256,768,1792,15,4111,12543,28927,65535,131071] [pv (.slice a6 R1.length cb6),pv (.pointer (some ⟨bkS (.slice a6 R1.length cb6),ofS (.slice a6 R1.length cb6)+(0:Int).toNat*2,none⟩)),pv (.pointer (some ⟨bkS (.slice a6 R1.length cb6),ofS (.slice a6 R1.length cb6)+(0:Int).toNat*2+0,none⟩)),pv (I7 ((gd R1 0).item)),pv (.slice a6 R1.length cb6),pv (.pointer (some ⟨bkS (.slice a6 R1.length cb6),ofS (.slice a6 R1.length cb6)+(0:Int).toNat*2,none⟩)),pv (.pointer (some ⟨bkS (.slice a6 R1.length cb6),ofS (.slice a6 R1.length cb6)+(0:Int).toNat*2+1,none⟩)),pv (.int .u32 ((gd R1 0).qty)),pv (.slice a7 R2.length cb7),pv (.pointer (some ⟨bkS (.slice a7 R2.length cb7),ofS (.slice a7 R2.length cb7)+(0:Int).toNat*2,none⟩)),pv (.pointer (some ⟨bkS (.slice a7 R2.length cb7),ofS (.slice a7 R2.length cb7)+(0:Int).toNat*2+1,none⟩)),pv (.int .u32 ((gd R2 0).qty)),pv (Pq b9 (0+1)),pn,pv (Pq b9 (0+3)),pn,pv (Pq b9 (0+4)),pn] (fun D J=>[Qeo 60 83 b out,blk b1 [I7 va,.slice aa la.length ca,.bool ao,.int .u32 at_] 49,blk b3 [I7 vb,.slice ab lb.length cb,.bool bo,.int .u32 bt] 49,cond (D 17) (blk b9 (dfc (⟨vb,(gd R1 0).item,false,(gd R1 0).qty,(gd R2 0).qty⟩:Dif)) 83) (cond (D 15) (blk b9 (dfc (⟨vb,(gd R1 0).item,false,(gd R1 0).qty,0⟩:Dif)) 83) (cond (D 13) (blk b9 (dfc (⟨vb,(gd R1 0).item,false,0,0⟩:Dif)) 83) (blk b9 (dfc (⟨vb,0,false,0,0⟩:Dif)) 83)))]) [] (by kernel_rfl) hs ⟨?_,?_,?_,?_,?_,?_,?_,?_,?_,?_,?_,?_,?_,?_,?_,?_,?_,?_,trivial⟩ ?_
  ·exact oa [] fun D J w hs=>Qac (V:=.slice a6 R1.length cb6) rfl (Zz hs)
  ·exact oa [0] fun D J w hs=>Qax Qdy Qct.1 (hv6 _ _ hs) rfl rfl (by decide) (by rw [QQ6];omega) (Zz hs)
  ·exact oa [1] fun D J w hs=>Qaf Qdf rfl (Zz hs)
  ·exact oa [2] fun D J w hs=>QaW (j:=0) (V:=.int .u16 ((gd R1 0).item)) 0 Qar (hv6 _ _ hs) (Qba (by omega)) rfl rfl (by omega) (Zz hs)
  ·exact oa [] fun D J w hs=>Qac (V:=.slice a6 R1.length cb6) rfl (Zz hs)
  ·exact oa [4] fun D J w hs=>Qax Qdy Qct.1 (hv6 _ _ hs) rfl rfl (by decide) (by rw [QQ6];omega) (Zz hs)
  ·exact oa [5] fun D J w hs=>Qaf QeO rfl (Zz hs)
  ·exact oa [6] fun D J w hs=>QaW (j:=1) (V:=.int .u32 ((gd R1 0).qty)) 0 QaX (hv6 _ _ hs) (Qba (by omega)) rfl rfl (by omega) (Zz hs)
  ·exact oa [] fun D J w hs=>Qac (V:=.slice a7 R2.length cb7) rfl (Zz hs)
  ·exact oa [8] fun D J w hs=>Qax Qdy Qct.1 (hv7 _ _ hs) rfl rfl (by decide) (by rw [QQ6];omega) (Zz hs)
  ·exact oa [9] fun D J w hs=>Qaf QeO rfl (Zz hs)
  ·exact oa [10] fun D J w hs=>QaW (j:=1) (V:=.int .u32 ((gd R2 0).qty)) 0 QaX (hv7 _ _ hs) (Qba (by omega)) rfl rfl (by omega) (Zz hs)
  ·exact oa [] fun D J w hs=>Qaf Qjk rfl (Zz hs)
  ·exact ob [3,12] [15,17] rfl rfl fun D J w hs=>Qc0 (V:=I7 ((gd R1 0).item)) (cs':=dfc (⟨vb,(gd R1 0).item,false,0,0⟩:Dif)) Qar hs 3 rfl rfl rfl rfl (QQ8 rfl) rfl fun _ hs=>⟨trivial,hs⟩
  ·exact oa [] fun D J w hs=>Qaf Qf1 rfl (Zz hs)
  ·exact ob [7,13,14] [17] rfl rfl fun D J w hs=>Qc0 (V:=.int .u32 ((gd R1 0).qty)) (cs':=dfc (⟨vb,(gd R1 0).item,false,(gd R1 0).qty,0⟩:Dif)) QaX hs 3 rfl rfl rfl rfl (QQ8 rfl) rfl fun _ hs=>⟨trivial,hs⟩
  ·exact oa [] fun D J w hs=>Qaf Qgn rfl (Zz hs)
  ·exact oa [11,13,15,16] fun D J w hs=>Qc0 (V:=.int .u32 ((gd R2 0).qty)) (cs':=dfc (⟨vb,(gd R1 0).item,false,(gd R1 0).qty,(gd R2 0).qty⟩:Dif)) QaX hs 3 rfl rfl rfl rfl (QQ8 rfl) rfl fun _ hs=>⟨trivial,hs⟩
  rintro J1 w29 J2 hJ hs
  replace hJ:J2=mix (sq 24 15) J1 _:=hJ
  replace hs:Own w S w29 [Qeo 60 83 b out,blk b1 [I7 va,.slice aa la.length ca,.bool ao,.int .u32 at_] 49,blk b3 [I7 vb,.slice ab lb.length cb,.bool bo,.int .u32 bt] 49,blk b9 (dfc (⟨vb,(gd R1 0).item,false,(gd R1 0).qty,(gd R2 0).qty⟩:Dif)) 83]:=hs
  subst hJ
  refine QaH HM [some 39,some 40,some 41,some 42,some 6,some 7] [] [0,1,0,4,3,31] [pv (.slice a6 R1.length cb6),pv (.slice (sla a6 1 cb6 2) ((R1.drop 1).length) (cb6-1)),pv (.slice a7 R2.length cb7),pv (.slice (sla a7 1 cb7 2) ((R2.drop 1).length) (cb7-1)),pv (.slice (sla a6 1 cb6 2) ((R1.drop 1).length) (cb6-1)),pv (.slice (sla a7 1 cb7 2) ((R2.drop 1).length) (cb7-1))] (fun _ _=>_) [5,4] (by kernel_rfl) hs ⟨?_,?_,?_,?_,?_,?_,trivial⟩ ?_
  ·exact ob [] [4] rfl rfl fun D J w hs=>Qac (V:=.slice a6 R1.length cb6) rfl (Zz hs)
  ·exact oa [0] fun D J w hs=>QkQ (l:=1) (h:=R1.length) (m:=cb6) (n':=(R1.drop 1).length) Qkv Qct.1 (hv6 _ _ hs) rfl (.inr ⟨_,_,rfl,rfl⟩) (.inl ⟨rfl,rfl⟩) (.inl ⟨rfl,rfl⟩) (by omega) (by omega) (Nat.le_trans (show R1.length<=R1.length by omega) (Rd.roomM (hv6 _ _ hs))) (Nat.le_refl _) (by simp only [List.length_take,List.length_drop]<;>omega) (Zz hs)
  ·exact ob [] [5] rfl rfl fun D J w hs=>Qac (V:=.slice a7 R2.length cb7) rfl (Zz hs)
  ·exact oa [2] fun D J w hs=>QkQ (l:=1) (h:=R2.length) (m:=cb7) (n':=(R2.drop 1).length) Qkv Qct.1 (hv7 _ _ hs) rfl (.inr ⟨_,_,rfl,rfl⟩) (.inl ⟨rfl,rfl⟩) (.inl ⟨rfl,rfl⟩) (by omega) (by omega) (Nat.le_trans (show R2.length<=R2.length by omega) (Rd.roomM (hv7 _ _ hs))) (Nat.le_refl _) (by simp only [List.length_take,List.length_drop]<;>omega) (Zz hs)
  ·exact oa [1] fun D J w hs=>Qad (V:=.slice (sla a6 1 cb6 2) ((R1.drop 1).length) (cb6-1)) rfl (Zz hs)
  ·exact oa [3] fun D J w hs=>Qad (V:=.slice (sla a7 1 cb7 2) ((R2.drop 1).length) (cb7-1)) rfl (Zz hs)
  rintro J1 w30 J2 hJ hs
  replace hJ:J2=upd (upd (mix [39,40,41,42,6,7] J1 _) 6 (.slice (sla a6 1 cb6 2) ((R1.drop 1).length) (cb6-1))) 7 (.slice (sla a7 1 cb7 2) ((R2.drop 1).length) (cb7-1)):=hJ
  subst hJ
  refine Qag (Qab (Qaa (Qaf Qf1 rfl (Qaa (QaQ (V:=.int .u32 ((gd R1 0).qty)) QaX hs 3 rfl rfl rfl (Qaa (Qaf Qgn rfl (Qaa (QaQ (V:=.int .u32 ((gd R2 0).qty)) QaX hs 3 rfl rfl rfl (Qaa (Qcv rfl rfl (Qae (Qam (t:=!decide ((gd R1 0).qty=(gd R2 0).qty)) rfl (fun c31=>?_) (fun c31=>?_))))))))))))))
  ·
   replace c31:=Qby c31
   replace c31:=QQ2 c31
   refine Qab (Qaa (Qac (V:=.func (.func 65) #[] #[Pq b 0]) rfl (Qaa (QaL (cs:=dfc (⟨vb,(gd R1 0).item,false,(gd R1 0).qty,(gd R2 0).qty⟩:Dif)) QfF hs 3 rfl rfl rfl (Qaa (QpT (α:=Unit) (vs:=[.agg (dfc (⟨vb,(gd R1 0).item,false,(gd R1 0).qty,(gd R2 0).qty⟩:Dif)).toArray]) (cs:=[Pq b 0]) (V:=fun _=>.tuple #[]) (R:=Qeo 60 83 b out) (R':=fun _=>Qeo 60 83 b (out++[(⟨vb,(gd R1 0).item,false,(gd R1 0).qty,(gd R2 0).qty⟩:Dif)])) (Lo:=fun _=>[]) (F:=fun _ _=>True) QpB rfl rfl hs 0 rfl (fun S hS hlS=>QfH _ S b out (⟨vb,(gd R1 0).item,false,(gd R1 0).qty,(gd R2 0).qty⟩:Dif) hS hlS (by omega)) fun _ w32 hs _=>(Qae ?_)))))))
   have hd9:=Qqn hra hrb hdi (by omega) (by omega) hz9
   refine ⟨_,?_,_,R1.drop 1,R2.drop 1,I++[(gd R1 0).item],(out++[(⟨vb,(gd R1 0).item,false,(gd R1 0).qty,(gd R2 0).qty⟩:Dif)]),(sla a6 1 cb6 2),cb6-1,(sla a7 1 cb7 2),cb7-1,Qal (Qal (Qap (ds:=([6,7,8]++sq 13 97)) (by repeat (first|exact Agr.refl _ _|refine Agr.upd ?_ rfl|refine Agr.mix ?_ rfl))) rfl) rfl,hd9.1,(Qhq hout hd9.2.1 hd9.2.2 c31),(fun w1 L1 h=>Rd.dropM (hv6 w1 L1 h) 1 (by omega) _ (by rw [List.length_drop])),(fun w1 L1 h=>Rd.dropM (hv7 w1 L1 h) 1 (by omega) _ (by rw [List.length_drop])),(by simp only [List.length_drop];omega),(by simp only [QQ7,List.length_singleton,List.length_drop];omega),rfl,hs.take 3⟩
   (simp only [List.length_drop];omega)
  replace c31:=Qbu c31
  replace c31:=QQ1 c31
  refine Qao ?_
  have hd9:=Qqn hra hrb hdi (by omega) (by omega) hz9
  refine ⟨_,?_,_,R1.drop 1,R2.drop 1,I++[(gd R1 0).item],out,(sla a6 1 cb6 2),cb6-1,(sla a7 1 cb7 2),cb7-1,Qal (Qal (Qap (ds:=([6,7,8]++sq 13 97)) (by repeat (first|exact Agr.refl _ _|refine Agr.upd ?_ rfl|refine Agr.mix ?_ rfl))) rfl) rfl,hd9.1,(Qnz hout hd9.2.1 hd9.2.2 c31),(fun w1 L1 h=>Rd.dropM (hv6 w1 L1 h) 1 (by omega) _ (by rw [List.length_drop])),(fun w1 L1 h=>Rd.dropM (hv7 w1 L1 h) 1 (by omega) _ (by rw [List.length_drop])),(by simp only [List.length_drop];omega),(by simp only [List.length_drop];omega),rfl,hs.take 3⟩
  (simp only [List.length_drop];omega)
 have c8r:=QgD c8
 replace c8:=QgK c8
 replace c8:=QQ2 c8
 replace c8r:=QQ2 c8r
 refine QaJ (Qag (Qab (Qaa (Qaf Qds rfl (Qaa (QaQ (V:=.bool ao) Qn5 hs 1 rfl rfl rfl (Qaa (Qaf Qds rfl (Qaa (QaQ (V:=.bool bo) Qn5 hs 2 rfl rfl rfl (Qaa (QpR Qn9 rfl rfl (Qae (Qam (t:=!(ao == bo)) rfl (fun c33=>?_) (fun c33=>?_)))))))))))))))
 ·
  replace c33:=Qby c33
  refine QaH HM [some 115,some 116,some 117,some 118,some 119,some 120,some 121,some 122,some 123,some 124,some 125] [] [0,0,2,0,8,24,0,64,248,510,1023] [pv (.func (.func 65) #[] #[Pq b 0]),pv (Pq b3 (0+0)),pv (I7 vb),pv (Pq b1 (0+2)),pv (.bool ao),pv (.int .u32 (QcF ao)),pv (Pq b3 (0+2)),pv (.bool bo),pv (.int .u32 (QcF bo)),pv (.agg (dfc (⟨vb,0,true,QcF ao,QcF bo⟩:Dif)).toArray),pv (.tuple #[])] (fun D J=>[cond (D 10) (Qeo 60 83 b (out++[(⟨vb,0,true,QcF ao,QcF bo⟩:Dif)])) (Qeo 60 83 b out),blk b1 [I7 va,.slice aa la.length ca,.bool ao,.int .u32 at_] 49,blk b3 [I7 vb,.slice ab lb.length cb,.bool bo,.int .u32 bt] 49]) [] (by kernel_rfl) hs ⟨?_,?_,?_,?_,?_,?_,?_,?_,?_,?_,?_,trivial⟩ ?_
  ·exact oa [] fun D J w hs=>Qac (V:=.func (.func 65) #[] #[.pointer (some ⟨b,0,none⟩)]) rfl (Zz hs)
  ·exact oa [] fun D J w hs=>Qaf QnG rfl (Zz hs)
  ·exact oa [1] fun D J w hs=>QaQ (V:=.int .u16 vb) Qar hs 2 rfl rfl rfl (Zz hs)
  ·exact oa [] fun D J w hs=>Qaf Qds rfl (Zz hs)
  ·exact oa [3] fun D J w hs=>QaQ (V:=.bool ao) Qn5 hs 1 rfl rfl rfl (Zz hs)
  ·exact oa [4] fun D J w hs=>Qat (vs:=[.bool ao]) (V:=.int .u32 (QcF ao)) Qqc rfl rfl (Qkj _ ao) hs fun _ hs=>Zz hs
  ·exact oa [] fun D J w hs=>Qaf Qds rfl (Zz hs)
  ·exact oa [6] fun D J w hs=>QaQ (V:=.bool bo) Qn5 hs 2 rfl rfl rfl (Zz hs)
  ·exact oa [7] fun D J w hs=>Qat (vs:=[.bool bo]) (V:=.int .u32 (QcF bo)) Qqc rfl rfl (Qkj _ bo) hs fun _ hs=>Zz hs
  ·exact oa [2,5,8] fun D J w hs=>QbD (vs:=[(0,.int .u16 vb),(2,.bool true),(3,.int .u32 (QcF ao)),(4,.int .u32 (QcF bo))]) (cs:=dfc (⟨vb,0,true,QcF ao,QcF bo⟩:Dif)) QmH (rfl) rfl (Zz hs)
  ·exact oa [0,9] fun D J w hs=>QpT (α:=Unit) (vs:=[.agg (dfc (⟨vb,0,true,QcF ao,QcF bo⟩:Dif)).toArray]) (cs:=[.pointer (some ⟨b,0,none⟩)]) (V:=fun _=>.tuple #[]) (R:=Qeo 60 83 b out) (R':=fun _=>Qeo 60 83 b (out++[(⟨vb,0,true,QcF ao,QcF bo⟩:Dif)])) (Lo:=fun _=>[]) (F:=fun _ _=>True) QpB rfl rfl hs 0 rfl (fun S hS hlS=>QfH _ S b out (⟨vb,0,true,QcF ao,QcF bo⟩:Dif) hS hlS (by omega)) fun _ _ hs _=>⟨rfl,hs⟩
  rintro J1 w37 J2 hJ hs
  replace hJ:J2=mix (sq 115 11) J1 _:=hJ
  replace hs:Own w S w37 [Qeo 60 83 b (out++[(⟨vb,0,true,QcF ao,QcF bo⟩:Dif)]),blk b1 [I7 va,.slice aa la.length ca,.bool ao,.int .u32 at_] 49,blk b3 [I7 vb,.slice ab lb.length cb,.bool bo,.int .u32 bt] 49]:=hs
  subst hJ
  refine ⟨_,Qbf Tryz.results64,?_⟩
  have hof:=QkA hdi (by omega) (by omega) hout
  have hX:(out++[(⟨vb,0,true,QcF ao,QcF bo⟩:Dif)])=L++QcX (⟨va,la,ao,at_⟩:Vw) (⟨vb,lb,bo,bt⟩:Vw):=Qm7 hof (fun e=>by subst e;simp at c33)
  exact ⟨(),rfl,by rw [← hX];exact hs.only 0 rfl,trivial⟩
 replace c33:=Qbu c33
 refine Qao ?_
 refine ⟨_,Qbf Tryz.results64,?_⟩
 have hof:=QkA hdi (by omega) (by omega) hout
 have hX:out=L++QcX (⟨va,la,ao,at_⟩:Vw) (⟨vb,lb,bo,bt⟩:Vw):=QnD hof (eq_of_beq c33)
 exact ⟨(),rfl,by rw [← hX];exact hs.only 0 rfl,trivial⟩
end Tt
end Go.Proofs
namespace Go.Proofs
open Go Go.Vx Go.RowKit
namespace Tt
theorem Qhs (w:World) (p:Pst) (a1:Option Addr) (c1:Nat) (a2:Option Addr) (c2:Nat) (a3:Option Addr) (c3:Nat) (a b:Vec) (ha:QbM a) (hb:QbM b) (hsortE:QgH Tryz.prog 48 49 cec 106 7 QkG) (hsortU:QgC Tryz.prog 134 .u16 32) (hok:Qdq p) (hle:p.base.ents.length<=400) (hlt:p.base.ticks.length<=400) (hlo:p.ops.length<=400) (hr1:Rd w (.slice a1 p.base.ents.length c1) 7 (p.base.ents.map cec)) (hr2:Rd w (.slice a2 p.base.ticks.length c2) 2 (p.base.ticks.map lsc)) (hr3:Rd w (.slice a3 p.ops.length c3) 23 (p.ops.map oc)):Calls Tryz.prog 22 #[.agg (((vc p.base.known)++[(.slice a1 p.base.ents.length c1:Value),(.slice a2 p.base.ticks.length c2:Value) ])++[(.slice a3 p.ops.length c3:Value) ]++(vc p.known)).toArray,.agg (vc a).toArray,.agg (vc b).toArray] w (fun e w'=>∃ x:Option Addr × Nat,e = .returned (.tuple #[.slice x.1 (Qa6 p a b).length x.2,.int .i64 (QbK p a b)])/\Own w no w' [row (.slice x.1 (Qa6 p a b).length x.2) ((Qa6 p a b).map dfc) 83 5]/\True):=by
 refine Qai (n:=55) Tryz.func22 rfl Tryz.ntmps22 rfl ?_
 have hs:=Own.start w
 have ⟨hokb,hoko,hokk⟩:=hok
 have hsa:=QdK p a
 have hsoa:=QeJ (cut:=a) hok ha
 have hsb:=QdK p b
 have hsob:=QeJ (cut:=b) hok hb
 refine Qag (Qab (Qaa (Qa4 (V:=.agg (((vc p.base.known)++[(.slice a1 p.base.ents.length c1:Value),(.slice a2 p.base.ticks.length c2:Value) ])++[(.slice a3 p.ops.length c3:Value) ]++(vc p.known)).toArray) (cs:=((vc p.base.known)++[(.slice a1 p.base.ents.length c1:Value),(.slice a2 p.base.ticks.length c2:Value) ])++[(.slice a3 p.ops.length c3:Value) ]++(vc p.known)) rfl rfl hs fun b1 w2 hs=>(Qaa (Qa4 (V:=.agg (vc a).toArray) (cs:=vc a) rfl rfl hs fun b3 w4 hs=>(Qaa (Qa4 (V:=.agg (vc b).toArray) (cs:=vc b) rfl rfl hs fun b5 w6 hs=>(Qaa (Qad (V:=.slice none 0 0) rfl (Qaa (Qad (V:=I6 0) rfl (Qae (Qag (Qab (Qaa (QaL (cs:=((vc p.base.known)++[(.slice a1 p.base.ents.length c1:Value),(.slice a2 p.base.ticks.length c2:Value) ])++[(.slice a3 p.ops.length c3:Value) ]++(vc p.known)) QcU hs 0 rfl rfl rfl (Qaa (QaL (cs:=vc a) Qbk hs 1 rfl rfl rfl (Qaa (Qbm (α:=(Option Addr × Nat) × (Option Addr × Nat)) (vs:=[.agg (((vc p.base.known)++[(.slice a1 p.base.ents.length c1:Value),(.slice a2 p.base.ticks.length c2:Value) ])++[(.slice a3 p.ops.length c3:Value) ]++(vc p.known)).toArray,.agg (vc a).toArray]) (V:=fun x:(Option Addr × Nat) × (Option Addr × Nat)=>.tuple #[.agg (vc (Qah p a).known++[(.slice x.1.1 ((Qah p a).ents).length x.1.2:Value),(.slice x.2.1 ((Qah p a).ticks).length x.2.2:Value)]).toArray,I6 (Qbh p a)]) (Lo:=fun x=>[row (.slice x.1.1 ((Qah p a).ents).length x.1.2) (((Qah p a).ents).map cec) 106 7,row (.slice x.2.1 ((Qah p a).ticks).length x.2.2) (((Qah p a).ticks).map lsc) 102 2]) (F:=fun _ _=>True) QnE rfl rfl ?hc hs fun x8 w7 hs _=>?_))))))))))))))))))))
 case hc=>exact (Qd0 _ p a1 c1 a2 c2 a3 c3 a ha hsortE hsortU hok hle hlt hlo (Rd.own' hr1 hs) (Rd.own' hr2 hs) (Rd.own' hr3 hs))
 replace hs:Own w no w7 [blk b1 (((vc p.base.known)++[(.slice a1 p.base.ents.length c1:Value),(.slice a2 p.base.ticks.length c2:Value) ])++[(.slice a3 p.ops.length c3:Value) ]++(vc p.known)) 43,blk b3 (vc a) 24,blk b5 (vc b) 24,row (.slice x8.1.1 (((Qah p a).ents).length) x8.1.2) (((Qah p a).ents).map cec) 106 7,row (.slice x8.2.1 (((Qah p a).ticks).length) x8.2.2) (((Qah p a).ticks).map lsc) 102 2]:=hs
 refine Qaa (Qac (V:=.tuple #[.agg ((vc ((Qah p a).known))++[(.slice x8.1.1 (((Qah p a).ents).length) x8.1.2:Value),(.slice x8.2.1 (((Qah p a).ticks).length) x8.2.2:Value) ]).toArray,I6 (Qbh p a)]) rfl (Qaa (QaA (V:=.agg ((vc ((Qah p a).known))++[(.slice x8.1.1 (((Qah p a).ents).length) x8.1.2:Value),(.slice x8.2.1 (((Qah p a).ticks).length) x8.2.2:Value) ]).toArray) rfl rfl (Qaa (QaA (V:=I6 (Qbh p a)) rfl rfl (Qaa (QaK (cs:=(vc vzero)++[(.slice none 0 0:Value),(.slice none 0 0:Value) ]) QfB rfl hs fun b9 w10 hs=>(Qaa (Qcx (V:=.agg ((vc ((Qah p a).known))++[(.slice x8.1.1 (((Qah p a).ents).length) x8.1.2:Value),(.slice x8.2.1 (((Qah p a).ticks).length) x8.2.2:Value) ]).toArray) (vs:=(vc ((Qah p a).known))++[(.slice x8.1.1 (((Qah p a).ents).length) x8.1.2:Value),(.slice x8.2.1 (((Qah p a).ticks).length) x8.2.2:Value) ]) (cs':=(vc ((Qah p a).known))++[(.slice x8.1.1 (((Qah p a).ents).length) x8.1.2:Value),(.slice x8.2.1 (((Qah p a).ticks).length) x8.2.2:Value) ]) QbU.1 hs 5 rfl rfl rfl rfl rfl (QQ8 rfl) (Qbl (QbO _) (Qau rfl (Qau rfl Qa1))) (Qaz rfl) fun w11 hs=>(Qaa (Qad (V:=I6 (Qbh p a)) rfl (Qae (Qag (Qag (Qab (Qaa (Qac (V:=I6 (Qbh p a)) rfl (Qaa (Qcv rfl rfl (Qae (Qam (t:=!decide (Qbh p a=0)) rfl (fun c12=>?_) (fun c12=>?_))))))))))))))))))))))
 ·
  replace c12:=Qby c12
  replace c12:=QQ2 c12
  refine Qag (Qab (Qaa (Qac (V:=I6 (Qbh p a)) rfl (Qaa (Qad (V:=.slice none 0 0) rfl (Qaa (Qad (V:=I6 (Qbh p a)) rfl (Qae (Qaw ?_)))))))))
  refine ⟨_,QbI (U:=.slice none 0 0) (V:=I6 (Qbh p a)) Tryz.results22 rfl rfl,?_⟩
  have hX:QbK p a b=Qbh p a:=Qq3 c12
  rw [QhJ (by rw [hX];exact c12),hX]
  exact ⟨(none,0),rfl,(hs.take 0).more _ (Qbd _ _ _ _),trivial⟩
 replace c12:=Qbu c12
 replace c12:=QQ1 c12
 refine Qao (Qag (Qab (Qaa (QaL (cs:=((vc p.base.known)++[(.slice a1 p.base.ents.length c1:Value),(.slice a2 p.base.ticks.length c2:Value) ])++[(.slice a3 p.ops.length c3:Value) ]++(vc p.known)) QcU hs 0 rfl rfl rfl (Qaa (QaL (cs:=vc b) Qbk hs 2 rfl rfl rfl (Qaa (Qbm (α:=(Option Addr × Nat) × (Option Addr × Nat)) (vs:=[.agg (((vc p.base.known)++[(.slice a1 p.base.ents.length c1:Value),(.slice a2 p.base.ticks.length c2:Value) ])++[(.slice a3 p.ops.length c3:Value) ]++(vc p.known)).toArray,.agg (vc b).toArray]) (V:=fun x:(Option Addr × Nat) × (Option Addr × Nat)=>.tuple #[.agg (vc (Qah p b).known++[(.slice x.1.1 ((Qah p b).ents).length x.1.2:Value),(.slice x.2.1 ((Qah p b).ticks).length x.2.2:Value)]).toArray,I6 (Qbh p b)]) (Lo:=fun x=>[row (.slice x.1.1 ((Qah p b).ents).length x.1.2) (((Qah p b).ents).map cec) 106 7,row (.slice x.2.1 ((Qah p b).ticks).length x.2.2) (((Qah p b).ticks).map lsc) 102 2]) (F:=fun _ _=>True) QnE rfl rfl ?hc hs fun x14 w13 hs _=>?_))))))))
 case hc=>exact (Qd0 _ p a1 c1 a2 c2 a3 c3 b hb hsortE hsortU hok hle hlt hlo (Rd.own' hr1 hs) (Rd.own' hr2 hs) (Rd.own' hr3 hs))
 refine Qaa (Qac (V:=.tuple #[.agg ((vc ((Qah p b).known))++[(.slice x14.1.1 (((Qah p b).ents).length) x14.1.2:Value),(.slice x14.2.1 (((Qah p b).ticks).length) x14.2.2:Value) ]).toArray,I6 (Qbh p b)]) rfl (Qaa (QaA (V:=.agg ((vc ((Qah p b).known))++[(.slice x14.1.1 (((Qah p b).ents).length) x14.1.2:Value),(.slice x14.2.1 (((Qah p b).ticks).length) x14.2.2:Value) ]).toArray) rfl rfl (Qaa (QaA (V:=I6 (Qbh p b)) rfl rfl (Qaa (QaK (cs:=(vc vzero)++[(.slice none 0 0:Value),(.slice none 0 0:Value) ]) QfB rfl hs fun b15 w16 hs=>?_)))))))
 replace hs:Own w no w16 [blk b1 (((vc p.base.known)++[(.slice a1 p.base.ents.length c1:Value),(.slice a2 p.base.ticks.length c2:Value) ])++[(.slice a3 p.ops.length c3:Value) ]++(vc p.known)) 43,blk b3 (vc a) 24,blk b5 (vc b) 24,row (.slice x8.1.1 (((Qah p a).ents).length) x8.1.2) (((Qah p a).ents).map cec) 106 7,row (.slice x8.2.1 (((Qah p a).ticks).length) x8.2.2) (((Qah p a).ticks).map lsc) 102 2,blk b9 ((vc ((Qah p a).known))++[(.slice x8.1.1 (((Qah p a).ents).length) x8.1.2:Value),(.slice x8.2.1 (((Qah p a).ticks).length) x8.2.2:Value) ]) 38,row (.slice x14.1.1 (((Qah p b).ents).length) x14.1.2) (((Qah p b).ents).map cec) 106 7,row (.slice x14.2.1 (((Qah p b).ticks).length) x14.2.2) (((Qah p b).ticks).map lsc) 102 2,blk b15 ((vc vzero)++[(.slice none 0 0:Value),(.slice none 0 0:Value) ]) 38]:=hs
 refine Qaa (Qcx (V:=.agg ((vc ((Qah p b).known))++[(.slice x14.1.1 (((Qah p b).ents).length) x14.1.2:Value),(.slice x14.2.1 (((Qah p b).ticks).length) x14.2.2:Value) ]).toArray) (vs:=(vc ((Qah p b).known))++[(.slice x14.1.1 (((Qah p b).ents).length) x14.1.2:Value),(.slice x14.2.1 (((Qah p b).ticks).length) x14.2.2:Value) ]) (cs':=(vc ((Qah p b).known))++[(.slice x14.1.1 (((Qah p b).ents).length) x14.1.2:Value),(.slice x14.2.1 (((Qah p b).ticks).length) x14.2.2:Value) ]) QbU.1 hs 8 rfl rfl rfl rfl rfl (QQ8 rfl) (Qbl (QbO _) (Qau rfl (Qau rfl Qa1))) (Qaz rfl) fun w17 hs=>(Qaa (Qad (V:=I6 (Qbh p b)) rfl (Qae (Qag (Qan (Qag (Qab (Qaa (Qac (V:=I6 (Qbh p b)) rfl (Qaa (Qcv rfl rfl (Qaa (Qad (V:=.bool (!decide (Qbh p b=0))) rfl (Qae (Qam (t:=!decide (Qbh p b=0)) rfl (fun c18=>?_) (fun c18=>?_)))))))))))))))))
 ·
  replace c18:=Qby c18
  replace c18:=QQ2 c18
  refine Qag (Qab (Qaa (Qac (V:=I6 (Qbh p b)) rfl (Qaa (Qad (V:=.slice none 0 0) rfl (Qaa (Qad (V:=I6 (Qbh p b)) rfl (Qae (Qaw ?_)))))))))
  refine ⟨_,QbI (U:=.slice none 0 0) (V:=I6 (Qbh p b)) Tryz.results22 rfl rfl,?_⟩
  have hX:QbK p a b=Qbh p b:=QrX c12 c18
  rw [QhJ (by rw [hX];exact c18),hX]
  exact ⟨(none,0),rfl,(hs.take 0).more _ (Qbd _ _ _ _),trivial⟩
 replace c18:=Qbu c18
 replace c18:=QQ1 c18
 refine Qag (Qab (Qaa (QaL (cs:=vc a) Qbk hs 1 rfl rfl rfl (Qaa (QaL (cs:=vc b) Qbk hs 2 rfl rfl rfl (Qaa (Qat (vs:=[.agg (vc a).toArray,.agg (vc b).toArray]) (V:=.bool (vle a b)) Qod rfl rfl ?hc hs fun w19 hs=>?_)))))))
 case hc=>exact (QeS _ a b)
 refine Qaa (Qbz rfl (Qaa (Qad (V:=.bool (!(vle a b))) rfl (Qae (Qam (t:=!(vle a b)) rfl (fun c20=>?_) (fun c20=>?_))))))
 ·
  replace c20:=Qby c20
  refine Qag (Qab (Qaa (Qad (V:=.slice none 0 0) rfl (Qaa (Qad (V:=I6 14) rfl (Qae (Qaw ?_)))))))
  refine ⟨_,QbI (U:=.slice none 0 0) (V:=I6 14) Tryz.results22 rfl rfl,?_⟩
  have hX:QbK p a b=14:=Qrg c12 c18 c20
  rw [QhJ (by rw [hX];decide),hX]
  exact ⟨(none,0),rfl,(hs.take 0).more _ (Qbd _ _ _ _),trivial⟩
 replace c20:=Qbu c20
 refine Qao (Qag (Qab (Qaa (QaK (cs:=[.slice none 0 0]) Qv0 rfl hs fun b21 w22 hs=>(Qae (Qag (Qag (Qab (Qaa (QaL (cs:=(vc ((Qah p b).known))++[(.slice x14.1.1 (((Qah p b).ents).length) x14.1.2:Value),(.slice x14.2.1 (((Qah p b).ticks).length) x14.2.2:Value) ]) QbU hs 8 rfl rfl rfl (Qaa (Qbm (vs:=[.agg ((vc ((Qah p b).known))++[(.slice x14.1.1 (((Qah p b).ents).length) x14.1.2:Value),(.slice x14.2.1 (((Qah p b).ticks).length) x14.2.2:Value) ]).toArray]) (V:=fun x:Option Addr × Nat=>.slice x.1 (Qay (Qah p b)).length x.2) Qsy rfl rfl (Qif _ (Qah p b) x14.1.1 x14.1.2 x14.2.1 x14.2.2 hsob (by omega) (by omega) (hs.rd 6 rfl) (hs.rd 7 rfl)) hs fun x23 w24 hs _=>(Qaa (Qa3 (n:=(Qay (Qah p b)).length) QaN (hs.rd 10 rfl) (by simp) rfl (Qaa (Qac (V:=I6 0) rfl (Qae (Qan ?_))))))))))))))))))
 replace hs:=hs.more (row (.slice none 0 0) (List.map dfc []) 83 5) (Qbd _ _ _ _)
 have ho:=(hs.join 9 11 (by decide) rfl rfl).conv 9 (R':=Qeo 60 83 b21 []) rfl fun _ h=>⟨(none,0),h⟩
 replace hs:=ho
 have hcl:=Qir (Qah p b)
 refine QaD (fun J μ J' w'=>∃ (Jo:Env) (k:Nat) (out:List Dif),J'=upd (mix ([13]++sq 41 13) Jo J) 41 (I6 (k:Int))/\(k<=(Qay (Qah p b)).length)/\(out=((Qay (Qah p b)).take k).flatMap (Qjy p a b))/\(out.length<=k*2000)/\μ=(Qay (Qah p b)).length-k/\Own w no w' [blk b1 (((vc p.base.known)++[(.slice a1 p.base.ents.length c1:Value),(.slice a2 p.base.ticks.length c2:Value) ])++[(.slice a3 p.ops.length c3:Value) ]++(vc p.known)) 43,blk b3 (vc a) 24,blk b5 (vc b) 24,row (.slice x8.1.1 (((Qah p a).ents).length) x8.1.2) (((Qah p a).ents).map cec) 106 7,row (.slice x8.2.1 (((Qah p a).ticks).length) x8.2.2) (((Qah p a).ticks).map lsc) 102 2,blk b9 ((vc ((Qah p a).known))++[(.slice x8.1.1 (((Qah p a).ents).length) x8.1.2:Value),(.slice x8.2.1 (((Qah p a).ticks).length) x8.2.2:Value) ]) 38,row (.slice x14.1.1 (((Qah p b).ents).length) x14.1.2) (((Qah p b).ents).map cec) 106 7,row (.slice x14.2.1 (((Qah p b).ticks).length) x14.2.2) (((Qah p b).ticks).map lsc) 102 2,blk b15 ((vc ((Qah p b).known))++[(.slice x14.1.1 (((Qah p b).ents).length) x14.1.2:Value),(.slice x14.2.1 (((Qah p b).ticks).length) x14.2.2:Value) ]) 38,Qeo 60 83 b21 out,row (.slice x23.1 ((Qay (Qah p b)).length) x23.2) ((Qay (Qah p b)).map (ic .u16)) 32 1,emp]) ?_ ?_
 ·exact ⟨_,_,0,[],Qal (Qap (ds:=([13]++sq 41 13)) (Agr.refl _ _)) rfl,(by omega),rfl,(Nat.le_refl _),rfl,hs⟩
 rintro μ J' w25 ⟨Jo,k,out,rfl,hk,hout,hol,rfl,hs⟩
 have hvl1:(QaO p a (gd (Qay (Qah p b)) k)).lines.length<=800:=Nat.le_trans (Qe9 _ _ _) (by omega)
 have hvl2:(QaO p b (gd (Qay (Qah p b)) k)).lines.length<=800:=Nat.le_trans (Qe9 _ _ _) (by omega)
 refine Qag (Qab (Qaa (Qa2 rfl rfl (Qae (Qag (Qam (t:=decide ((k:Int)<(((Qay (Qah p b)).length:Nat):Int))) rfl (fun c26=>?_) (fun c26=>?_)))))))
 ·
  replace c26:=QQ1 c26
  refine Qao (Qag (Qan (Qag (Qab (Qaa (Qax QaN Qar.1 (hs.rd 10 rfl) rfl rfl (by omega) (by rw [QQ6];omega) (Qaa (QaW (j:=0) (V:=I7 (gd (Qay (Qah p b)) k)) k Qar (hs.rd 10 rfl) (Qba (by omega)) rfl rfl (by omega) (Qaa (Qad (V:=I7 (gd (Qay (Qah p b)) k)) rfl (Qae ?_)))))))))))
  replace hs:=hs.more emp trivial
  replace hs:=hs.more emp trivial
  refine QaH HM [some 45,some 46,some 47,some 48,some 49,some 50,some 51,some 52] [[],[],[47],[],[],[50]] [0,0,3,0,0,31,0,127] [pv (.agg ((vc ((Qah p a).known))++[(.slice x8.1.1 (((Qah p a).ents).length) x8.1.2:Value),(.slice x8.2.1 (((Qah p a).ticks).length) x8.2.2:Value) ]).toArray),pv (I7 (gd (Qay (Qah p b)) k)),(true,fun J=>.agg #[I7 ((QaO p a (gd (Qay (Qah p b)) k)).cart),.slice (aOf (QfL (J 47) 1)) (((QaO p a (gd (Qay (Qah p b)) k)).lines).length) (cOf (QfL (J 47) 1)),.bool ((QaO p a (gd (Qay (Qah p b)) k)).out),.int .u32 ((QaO p a (gd (Qay (Qah p b)) k)).tick)]),pv (.agg ((vc ((Qah p b).known))++[(.slice x14.1.1 (((Qah p b).ents).length) x14.1.2:Value),(.slice x14.2.1 (((Qah p b).ticks).length) x14.2.2:Value) ]).toArray),pv (I7 (gd (Qay (Qah p b)) k)),(true,fun J=>.agg #[I7 ((QaO p b (gd (Qay (Qah p b)) k)).cart),.slice (aOf (QfL (J 50) 1)) (((QaO p b (gd (Qay (Qah p b)) k)).lines).length) (cOf (QfL (J 50) 1)),.bool ((QaO p b (gd (Qay (Qah p b)) k)).out),.int .u32 ((QaO p b (gd (Qay (Qah p b)) k)).tick)]),pv (.func (.func 65) #[] #[Pq b21 0]),pv (.tuple #[])] (fun D J=>[blk b1 (((vc p.base.known)++[(.slice a1 p.base.ents.length c1:Value),(.slice a2 p.base.ticks.length c2:Value) ])++[(.slice a3 p.ops.length c3:Value) ]++(vc p.known)) 43,blk b3 (vc a) 24,blk b5 (vc b) 24,row (.slice x8.1.1 (((Qah p a).ents).length) x8.1.2) (((Qah p a).ents).map cec) 106 7,row (.slice x8.2.1 (((Qah p a).ticks).length) x8.2.2) (((Qah p a).ticks).map lsc) 102 2,blk b9 ((vc ((Qah p a).known))++[(.slice x8.1.1 (((Qah p a).ents).length) x8.1.2:Value),(.slice x8.2.1 (((Qah p a).ticks).length) x8.2.2:Value) ]) 38,row (.slice x14.1.1 (((Qah p b).ents).length) x14.1.2) (((Qah p b).ents).map cec) 106 7,row (.slice x14.2.1 (((Qah p b).ticks).length) x14.2.2) (((Qah p b).ticks).map lsc) 102 2,blk b15 ((vc ((Qah p b).known))++[(.slice x14.1.1 (((Qah p b).ents).length) x14.1.2:Value),(.slice x14.2.1 (((Qah p b).ticks).length) x14.2.2:Value) ]) 38,cond (D 7) (Qeo 60 83 b21 (out++QcX (QaO p a (gd (Qay (Qah p b)) k)) (QaO p b (gd (Qay (Qah p b)) k)))) (Qeo 60 83 b21 out),row (.slice x23.1 ((Qay (Qah p b)).length) x23.2) ((Qay (Qah p b)).map (ic .u16)) 32 1,emp,cond (D 2) (row (.slice (aOf (QfL (J 47) 1)) (((QaO p a (gd (Qay (Qah p b)) k)).lines).length) (cOf (QfL (J 47) 1))) (((QaO p a (gd (Qay (Qah p b)) k)).lines).map lc) 127 2) (emp),cond (D 5) (row (.slice (aOf (QfL (J 50) 1)) (((QaO p b (gd (Qay (Qah p b)) k)).lines).length) (cOf (QfL (J 50) 1))) (((QaO p b (gd (Qay (Qah p b)) k)).lines).map lc) 127 2) (emp)]) [] (by kernel_rfl) hs ⟨?_,?_,?_,?_,?_,?_,?_,?_,trivial⟩ ?_
  ·exact oa [] fun D J w hs=>QaL (cs:=(vc ((Qah p a).known))++[(.slice x8.1.1 (((Qah p a).ents).length) x8.1.2:Value),(.slice x8.2.1 (((Qah p a).ticks).length) x8.2.2:Value) ]) QbU hs 5 rfl rfl rfl (Zz hs)
  ·exact oa [] fun D J w hs=>Qac (V:=.int .u16 (gd (Qay (Qah p b)) k)) rfl (Zz hs)
  ·exact oa [0,1] fun D J w hs=>Qbm (α:=Option Addr × Nat) (vs:=[.agg ((vc ((Qah p a).known))++[(.slice x8.1.1 (((Qah p a).ents).length) x8.1.2:Value),(.slice x8.2.1 (((Qah p a).ticks).length) x8.2.2:Value) ]).toArray,.int .u16 (gd (Qay (Qah p b)) k)]) (V:=fun x=>.agg #[.int .u16 ((QaO p a (gd (Qay (Qah p b)) k)).cart),.slice x.1 (((QaO p a (gd (Qay (Qah p b)) k)).lines).length) x.2,.bool ((QaO p a (gd (Qay (Qah p b)) k)).out),.int .u32 ((QaO p a (gd (Qay (Qah p b)) k)).tick)]) (Lo:=fun x=>[row (.slice x.1 ((QaO p a (gd (Qay (Qah p b)) k)).lines).length x.2) (((QaO p a (gd (Qay (Qah p b)) k)).lines).map lc) 127 2]) (F:=fun _ _=>True) Qpd rfl rfl (QeG _ (Qah p a) x8.1.1 x8.1.2 x8.2.1 x8.2.2 (gd (Qay (Qah p b)) k) (QaO p a (gd (Qay (Qah p b)) k):Vw) (rfl) hsoa (by omega) (by omega) (hs.rd 3 rfl) (hs.rd 4 rfl)) hs fun _ _ hs _=>⟨rfl,hs.put 12 (QQ8 rfl)⟩
  ·exact oa [] fun D J w hs=>QaL (cs:=(vc ((Qah p b).known))++[(.slice x14.1.1 (((Qah p b).ents).length) x14.1.2:Value),(.slice x14.2.1 (((Qah p b).ticks).length) x14.2.2:Value) ]) QbU hs 8 rfl rfl rfl (Zz hs)
  ·exact oa [] fun D J w hs=>Qac (V:=.int .u16 (gd (Qay (Qah p b)) k)) rfl (Zz hs)
  ·exact oa [3,4] fun D J w hs=>Qbm (α:=Option Addr × Nat) (vs:=[.agg ((vc ((Qah p b).known))++[(.slice x14.1.1 (((Qah p b).ents).length) x14.1.2:Value),(.slice x14.2.1 (((Qah p b).ticks).length) x14.2.2:Value) ]).toArray,.int .u16 (gd (Qay (Qah p b)) k)]) (V:=fun x=>.agg #[.int .u16 ((QaO p b (gd (Qay (Qah p b)) k)).cart),.slice x.1 (((QaO p b (gd (Qay (Qah p b)) k)).lines).length) x.2,.bool ((QaO p b (gd (Qay (Qah p b)) k)).out),.int .u32 ((QaO p b (gd (Qay (Qah p b)) k)).tick)]) (Lo:=fun x=>[row (.slice x.1 ((QaO p b (gd (Qay (Qah p b)) k)).lines).length x.2) (((QaO p b (gd (Qay (Qah p b)) k)).lines).map lc) 127 2]) (F:=fun _ _=>True) Qpd rfl rfl (QeG _ (Qah p b) x14.1.1 x14.1.2 x14.2.1 x14.2.2 (gd (Qay (Qah p b)) k) (QaO p b (gd (Qay (Qah p b)) k):Vw) (rfl) hsob (by omega) (by omega) (hs.rd 6 rfl) (hs.rd 7 rfl)) hs fun _ _ hs _=>⟨rfl,hs.put 13 (QQ8 rfl)⟩
  ·exact oa [] fun D J w hs=>Qc3 (cs:=[.pointer (some ⟨b21,0,none⟩)]) rfl rfl (Zz hs)
  ·exact oa [2,5,6] fun D J w hs=>Qi2 (α:=Unit) (vs:=[.agg #[.int .u16 ((QaO p a (gd (Qay (Qah p b)) k)).cart),.slice (aOf (QfL (J 47) 1)) (((QaO p a (gd (Qay (Qah p b)) k)).lines).length) (cOf (QfL (J 47) 1)),.bool ((QaO p a (gd (Qay (Qah p b)) k)).out),.int .u32 ((QaO p a (gd (Qay (Qah p b)) k)).tick)],.agg #[.int .u16 ((QaO p b (gd (Qay (Qah p b)) k)).cart),.slice (aOf (QfL (J 50) 1)) (((QaO p b (gd (Qay (Qah p b)) k)).lines).length) (cOf (QfL (J 50) 1)),.bool ((QaO p b (gd (Qay (Qah p b)) k)).out),.int .u32 ((QaO p b (gd (Qay (Qah p b)) k)).tick)],.func (.func 65) #[] #[.pointer (some ⟨b21,0,none⟩)]]) (V:=fun _=>.tuple #[]) (R:=Qeo 60 83 b21 out) (R':=fun _=>Qeo 60 83 b21 (out++QcX (QaO p a (gd (Qay (Qah p b)) k)) (QaO p b (gd (Qay (Qah p b)) k)))) (Lo:=fun _=>[]) (F:=fun _ _=>True) Qu9 rfl rfl hs 9 rfl (fun S hS hlS hK=>Qnb _ S b21 out ((QaO p a (gd (Qay (Qah p b)) k)).cart) ((QaO p a (gd (Qay (Qah p b)) k)).lines) ((QaO p a (gd (Qay (Qah p b)) k)).out) ((QaO p a (gd (Qay (Qah p b)) k)).tick) (aOf (QfL (J 47) 1)) (cOf (QfL (J 47) 1)) ((QaO p b (gd (Qay (Qah p b)) k)).cart) ((QaO p b (gd (Qay (Qah p b)) k)).lines) ((QaO p b (gd (Qay (Qah p b)) k)).out) ((QaO p b (gd (Qay (Qah p b)) k)).tick) (aOf (QfL (J 50) 1)) (cOf (QfL (J 50) 1)) (QjD _ _ _) (QjD _ _ _) (Nat.le_trans (Qe9 _ _ _) (by omega)) (Nat.le_trans (Qe9 _ _ _) (by omega)) (fun w1 L1 h=>(hK 12 (by decide) _ rfl).rd h) (fun w1 L1 h=>(hK 13 (by decide) _ rfl).rd h) hS hlS (by omega)) fun _ _ hs _=>⟨rfl,hs⟩
  rintro J1 w30 J2 hJ hs
  replace hJ:J2=mix (sq 45 8) J1 _:=hJ
  replace hs:Own w no w30 [blk b1 (((vc p.base.known)++[(.slice a1 p.base.ents.length c1:Value),(.slice a2 p.base.ticks.length c2:Value) ])++[(.slice a3 p.ops.length c3:Value) ]++(vc p.known)) 43,blk b3 (vc a) 24,blk b5 (vc b) 24,row (.slice x8.1.1 (((Qah p a).ents).length) x8.1.2) (((Qah p a).ents).map cec) 106 7,row (.slice x8.2.1 (((Qah p a).ticks).length) x8.2.2) (((Qah p a).ticks).map lsc) 102 2,blk b9 ((vc ((Qah p a).known))++[(.slice x8.1.1 (((Qah p a).ents).length) x8.1.2:Value),(.slice x8.2.1 (((Qah p a).ticks).length) x8.2.2:Value) ]) 38,row (.slice x14.1.1 (((Qah p b).ents).length) x14.1.2) (((Qah p b).ents).map cec) 106 7,row (.slice x14.2.1 (((Qah p b).ticks).length) x14.2.2) (((Qah p b).ticks).map lsc) 102 2,blk b15 ((vc ((Qah p b).known))++[(.slice x14.1.1 (((Qah p b).ents).length) x14.1.2:Value),(.slice x14.2.1 (((Qah p b).ticks).length) x14.2.2:Value) ]) 38,Qeo 60 83 b21 (out++QcX (QaO p a (gd (Qay (Qah p b)) k)) (QaO p b (gd (Qay (Qah p b)) k))),row (.slice x23.1 ((Qay (Qah p b)).length) x23.2) ((Qay (Qah p b)).map (ic .u16)) 32 1,emp,row (.slice (aOf (QfL (J1 47) 1)) (((QaO p a (gd (Qay (Qah p b)) k)).lines).length) (cOf (QfL (J1 47) 1))) (((QaO p a (gd (Qay (Qah p b)) k)).lines).map lc) 127 2,row (.slice (aOf (QfL (J1 50) 1)) (((QaO p b (gd (Qay (Qah p b)) k)).lines).length) (cOf (QfL (J1 50) 1))) (((QaO p b (gd (Qay (Qah p b)) k)).lines).map lc) 127 2]:=hs
  generalize (aOf (QfL (J1 47) 1))=na31 at hs
  generalize (cOf (QfL (J1 47) 1))=nc32 at hs
  generalize (aOf (QfL (J1 50) 1))=na33 at hs
  generalize (cOf (QfL (J1 50) 1))=nc34 at hs
  subst hJ
  refine Qab (Qaa (QaF (a:=(k:Int)) (b:=1) (c:=((k+1:Nat):Int)) rfl rfl (Qak (by omega) (by omega)) (Qaa (Qac (V:=I6 ((k+1:Nat):Int)) rfl (Qae ?_)))))
  refine ⟨_,?_,_,k+1,(out++QcX (QaO p a (gd (Qay (Qah p b)) k)) (QaO p b (gd (Qay (Qah p b)) k))),Qal (Qap (ds:=([13]++sq 41 13)) (by repeat (first|exact Agr.refl _ _|refine Agr.upd ?_ rfl|refine Agr.mix ?_ rfl))) rfl,(by omega),(QlX hout (by omega)),(by have h9:=Qps (QaO p a (gd (Qay (Qah p b)) k)) (QaO p b (gd (Qay (Qah p b)) k));rw [QQ7];omega),rfl,hs.take 12⟩
  omega
 replace c26:=QQ2 c26
 refine QaJ (Qag ?_)
 obtain ⟨⟨ao9,co9⟩,hs⟩:=hs.unpack 9 rfl
 replace hs:=hs.split 9 rfl
 refine Qab (Qaa (QaQ (V:=.slice ao9 out.length co9) Qq4 hs 9 rfl rfl rfl (Qaa (Qad (V:=.slice ao9 out.length co9) rfl (Qaa (Qad (V:=I6 0) rfl (Qae (Qaw ?_))))))))
 refine ⟨_,QbI (U:=.slice ao9 out.length co9) (V:=I6 0) Tryz.results22 rfl rfl,?_⟩
 have hX:QbK p a b=0:=Qi5 c12 c18 c20
 rw [Qoy hX hout (by omega),hX]
 exact ⟨(ao9,co9),rfl,hs.only 12 rfl,trivial⟩
end Tt
end Go.Proofs
namespace Go.Proofs
open Go Go.Vx Go.RowKit
namespace Tt
theorem QoO (w:World) (a:Option Addr) (c:Nat) (l:List Int) (g:Nat) (caps:List Value) (hg:En Tryz.prog g) (p:Int->Bool) (hp:∀ (w1:World) (L1:List Res),Own w no w1 L1->∀ x∈l,Calls Tryz.prog g ([(.int .u16 x:Value)]++caps).toArray w1 (fun e w'=>e = .returned (.bool (p x))/\Own w1 no w' [])) (hr:Rd w (.slice a l.length c) 1 (l.map (ic .u16))):Calls Tryz.prog 110 #[.slice a l.length c,.func (.func g) #[] caps.toArray] w (fun e w'=>e = .returned (.int .i64 (QeE p l))/\Own w no w' []):=by
 refine Qai (n:=19) Tryz.func110 rfl Tryz.ntmps110 rfl ?_
 have hs:=Own.start w
 have hn:=hr.sml
 refine Qag (Qab (Qaa (Qad (V:=I6 0) rfl (Qae (Qag (Qag (Qab (Qaa (Qac (V:=.slice a l.length c) rfl (Qaa (Qa3 (n:=l.length) QaN (Rd.own' hr hs) (by simp) rfl (Qaa (Qac (V:=I6 0) rfl (Qae (Qan (QaD (fun J μ J' w'=>∃ (Jo:Env) (k:Nat),J'=upd (mix ([4,5]++sq 8 11) Jo J) 8 (I6 (k:Int))/\(k<=l.length)/\(∀ j:Nat,j<k->p (gd l j)=false)/\μ=l.length-k/\Own w no w' []) ?_ ?_))))))))))))))))
 ·exact ⟨_,_,0,Qal (Qap (ds:=([4,5]++sq 8 11)) (Agr.refl _ _)) rfl,(by omega),(fun j hj=>absurd hj (Nat.not_lt_zero j)),rfl,hs⟩
 rintro μ J' w1 ⟨Jo,k,rfl,hk,hno,rfl,hs⟩
 refine Qag (Qab (Qaa (Qa2 rfl rfl (Qae (Qag (Qam (t:=decide ((k:Int)<((l.length:Nat):Int))) rfl (fun c2=>?_) (fun c2=>?_)))))))
 ·
  replace c2:=QQ1 c2
  refine Qao (Qag (Qan (Qag (Qab (Qaa (Qac (V:=I6 (k:Int)) rfl (Qaa (Qad (V:=I6 (k:Int)) rfl (Qae (Qag (Qab (Qaa (Qac (V:=.func (.func g) #[] caps.toArray) rfl (Qaa (Qac (V:=.slice a l.length c) rfl (Qaa (Qac (V:=I6 (k:Int)) rfl (Qaa (Qax QaN Qar.1 (Rd.own' hr hs) rfl rfl (by omega) (by rw [QQ6];omega) (Qaa (QaW (j:=0) (V:=I7 (gd l k)) k Qar (Rd.own' hr hs) (Qba (by omega)) rfl rfl (by omega) (Qaa (Qfo (vs:=[I7 (gd l k)]) (cs:=caps) (V:=.bool (p (gd l k))) hg rfl rfl (hp _ _ hs (gd l k) (QbG (by omega))) hs fun w3 hs=>(Qae (Qam (t:=p (gd l k)) rfl (fun c4=>?_) (fun c4=>?_))))))))))))))))))))))))))
  ·
   refine Qag (Qab (Qaa (Qac (V:=I6 (k:Int)) rfl (Qaa (Qad (V:=I6 (k:Int)) rfl (Qae (Qaw ?_)))))))
   refine ⟨_,Qaq (V:=I6 (k:Int)) Tryz.results110 rfl,(Zr hs ?_)⟩
   exact congrArg (Value.int .i64) (Qi0 (by omega) hno c4).symm
  refine Qao (Qab (Qaa (QaF (a:=(k:Int)) (b:=1) (c:=(k:Int)+1) rfl rfl (QbE (by omega) (by omega)) (Qaa (Qac (V:=I6 ((k:Int)+1)) rfl (Qae ?_))))))
  refine ⟨_,?_,_,k+1,Qal (Qap (ds:=([4,5]++sq 8 11)) (by repeat (first|exact Agr.refl _ _|refine Agr.upd ?_ rfl|refine Agr.mix ?_ rfl))) rfl,(by omega),(QcO hno c4),rfl,hs.take 0⟩
  omega
 replace c2:=QQ2 c2
 refine QaJ (Qag (Qab (Qaa (Qad (V:=I6 (-1)) rfl (Qae (Qaw ?_))))))
 refine ⟨_,Qaq (V:=I6 (-1)) Tryz.results110 rfl,(Zr hs ?_)⟩
 exact congrArg (Value.int .i64) (QlV fun j hj=>hno j (by omega)).symm
end Tt
end Go.Proofs
namespace Go.Proofs
open Go Go.Vx Go.RowKit
namespace Tt
theorem Qon (w:World) (S:Nat->Prop) (a:Option Addr) (c:Nat) (l:List Int) (g:Nat) (caps:List Value) (hg:En Tryz.prog g) (p:Int->Bool) (hp:∀ (w1:World) (L1:List Res),Own w S w1 L1->∀ x∈l,Calls Tryz.prog g ([(.int .u16 x:Value)]++caps).toArray w1 (fun e w'=>e = .returned (.bool (p x))/\Own w1 no w' [])) (hR:(row (.slice a l.length c) (l.map (ic .u16)) 32 1).holds w S) (hlt:∀ b,S b->b<w.heap.size):Calls Tryz.prog 67 #[.slice a l.length c,.func (.func g) #[] caps.toArray] w (fun e w'=>∃ x:Unit,e = .returned (.slice a (l.filter fun x=>!p x).length c)/\Own w S w' [row (.slice a (l.filter fun x=>!p x).length c) ((l.filter fun x=>!p x).map (ic .u16)) 32 1]/\True):=by
 refine Qai (n:=42) Tryz.func67 rfl Tryz.ntmps67 rfl ?_
 have hs:=Own.lent hR hlt
 have hn:=(hs.rd 0 rfl).sml
 have hlc:=(hs.rd 0 rfl).roomM
 refine Qag (Qab (Qaa (Qad (V:=.slice none 0 0) rfl (Qae (Qag (Qab (Qaa (Qac (V:=.slice a l.length c) rfl (Qaa (Qac (V:=.func (.func g) #[] caps.toArray) rfl (Qaa (Qat (vs:=[.slice a l.length c,.func (.func g) #[] caps.toArray]) (V:=I6 (QeE p l)) Qtz rfl rfl ?hc hs fun w1 hs=>?_))))))))))))
 case hc=>exact (QoO _ a c l g caps hg p (fun w1 L1 h=>hp w1 _ (hs.call h)) (hs.rd 0 rfl))
 refine Qaa (Qad (V:=I6 (QeE p l)) rfl (Qae (Qag (Qag ?_))))
 rcases QjZ (p:=p) (l:=l) with hk2|hk2
 ·
  obtain ⟨hf1,hfl⟩:=hk2
  refine Qab (Qaa (QaU (V:=I6 (QeE p l)) (V':=I6 (-1)) (Qac (V:=I6 (QeE p l)) rfl ⟨rfl,rfl⟩) (congrArg (Value.int .i64) hf1) (Qaa (QaU (V:=.bool (decide ((-1:Int) = -1))) (V':=.bool true) (QaZ rfl rfl ⟨rfl,rfl⟩) (congrArg Value.bool (QQ3 rfl)) (Qae (QcN rfl ?_))))))
  refine Qag (Qab (Qaa (Qac (V:=.slice a l.length c) rfl (Qaa (Qad (V:=.slice a l.length c) rfl (Qae (Qaw ?_)))))))
  refine ⟨_,Qaq (V:=.slice a l.length c) Tryz.results67 rfl,?_⟩
  rw [hfl]
  exact ⟨(),rfl,hs.take 1,trivial⟩
 obtain ⟨k0,hf1,hk0l,hpk,hft⟩:=hk2
 refine Qab (Qaa (QaU (V:=I6 (QeE p l)) (V':=I6 (k0:Int)) (Qac (V:=I6 (QeE p l)) rfl ⟨rfl,rfl⟩) (congrArg (Value.int .i64) hf1) (Qaa (QaU (V:=.bool (decide ((k0:Int) = -1))) (V':=.bool false) (QaZ rfl rfl ⟨rfl,rfl⟩) (congrArg Value.bool (QQ4 (by omega))) (Qae (QbV rfl ?_))))))
 refine Qao (Qag (Qag (Qab (Qaa (QaU (V:=I6 (QeE p l)) (V':=I6 (k0:Int)) (Qac (V:=I6 (QeE p l)) rfl ⟨rfl,rfl⟩) (congrArg (Value.int .i64) hf1) (Qaa (QaF (a:=(k0:Int)) (b:=1) (c:=((k0+1:Nat):Int)) rfl rfl (Qak (by omega) (by omega)) (Qaa (Qad (V:=I6 ((k0+1:Nat):Int)) rfl (Qae (Qan (QaD (fun J μ J' w'=>∃ (Jo:Env) (i:Nat) (j:Nat) (m:List Int),J'=upd (upd (mix ([5,6,7]++sq 16 20) Jo J) 5 (I6 (i:Int))) 6 (I6 (j:Int))/\(i<j)/\(j<=l.length)/\(Moved p l m i j)/\μ=l.length-j/\Own w S w' [row (.slice a l.length c) (m.map (ic .u16)) 32 1]) ?_ ?_))))))))))))
 ·exact ⟨_,_,k0,k0+1,l,Qal (Qal (Qap (ds:=([5,6,7]++sq 16 20)) (Agr.refl _ _)) (congrArg (Value.int .i64) hf1)) rfl,(by omega),(by omega),(QfZ hk0l hpk hft),rfl,hs⟩
 rintro μ J' w2 ⟨Jo,i,j,m,rfl,hij,hj,hmv,rfl,hs⟩
 have hml:=hmv.1
 refine Qag (Qag (Qab (Qaa (Qac (V:=I6 (j:Int)) rfl (Qaa (Qac (V:=.slice a l.length c) rfl (Qaa (Qa3 (n:=l.length) QaN (hs.rd 0 rfl) (by simp [hmv.1]) rfl (Qaa (Qa2 rfl rfl (Qae (Qam (t:=decide ((j:Int)<((l.length:Nat):Int))) rfl (fun c3=>?_) (fun c3=>?_)))))))))))))
 ·
  replace c3:=QQ1 c3
  refine Qao (Qag (Qan (Qag (Qab (Qaa (Qac (V:=.slice a l.length c) rfl (Qaa (Qac (V:=I6 (j:Int)) rfl (Qaa (Qax QaN Qar.1 (hs.rd 0 rfl) rfl rfl (by omega) (by rw [QQ6];omega) (Qaa (QaW (j:=0) (V:=I7 (gd m j)) j Qar (hs.rd 0 rfl) (Qba (by omega)) rfl rfl (by omega) (Qaa (Qad (V:=I7 (gd m j)) rfl (Qae (Qag (Qab (Qaa (Qac (V:=.func (.func g) #[] caps.toArray) rfl (Qaa (Qac (V:=I7 (gd m j)) rfl (Qaa (Qfo (vs:=[I7 (gd m j)]) (cs:=caps) (V:=.bool (p (gd m j))) hg rfl rfl (hp _ _ hs (gd m j) (by rw [hmv.2.2 _ (Nat.le_refl _)];exact QbG (by omega))) hs fun w4 hs=>(Qaa (Qbz rfl (Qae (Qam (t:=!(p (gd m j))) rfl (fun c5=>?_) (fun c5=>?_))))))))))))))))))))))))))))
  ·
   replace c5:=Qby c5
   refine Qag (Qab (Qaa (Qac (V:=.slice a l.length c) rfl (Qaa (Qac (V:=I6 (i:Int)) rfl (Qaa (Qac (V:=I7 (gd m j)) rfl (Qaa (Qax QaN Qar.1 (hs.rd 0 rfl) rfl rfl (by omega) (by rw [QQ6];omega) (Qaa (Quq (z:=gd m j) (vs:=[I7 (gd m j)]) i 0 Qar.1 hs 0 rfl rfl (by omega) (by first|omega|(simp only [List.length_set];omega)) rfl rfl rfl rfl (QQ8 rfl) ((Qfq .u16) _) (Qau rfl Qa1) fun w6 hs=>(Qae (Qab (Qaa (Qac (V:=I6 (i:Int)) rfl (Qaa (QaF (a:=(i:Int)) (b:=1) (c:=((i+1:Nat):Int)) rfl rfl (Qak (by omega) (by omega)) (Qaa (Qad (V:=I6 ((i+1:Nat):Int)) rfl (Qae (Qab (Qaa (Qac (V:=I6 (j:Int)) rfl (Qaa (QaF (a:=(j:Int)) (b:=1) (c:=((j+1:Nat):Int)) rfl rfl (Qak (by omega) (by omega)) (Qaa (Qad (V:=I6 ((j+1:Nat):Int)) rfl (Qae ?_))))))))))))))))))))))))))))
   refine ⟨_,?_,_,i+1,j+1,m.set i (gd m j),Qal (Qal (Qap (ds:=([5,6,7]++sq 16 20)) (by repeat (first|exact Agr.refl _ _|refine Agr.upd ?_ rfl|refine Agr.mix ?_ rfl))) rfl) rfl,(by omega),(by omega),(Qg3 hmv (by omega) (by omega) c5),rfl,hs.take 1⟩
   omega
  replace c5:=Qbu c5
  refine Qao (Qab (Qaa (Qac (V:=I6 (j:Int)) rfl (Qaa (QaF (a:=(j:Int)) (b:=1) (c:=((j+1:Nat):Int)) rfl rfl (Qak (by omega) (by omega)) (Qaa (Qad (V:=I6 ((j+1:Nat):Int)) rfl (Qae ?_))))))))
  refine ⟨_,?_,_,i,j+1,m,Qal (Qal (Qap (ds:=([5,6,7]++sq 16 20)) (by repeat (first|exact Agr.refl _ _|refine Agr.upd ?_ rfl|refine Agr.mix ?_ rfl))) rfl) rfl,(by omega),(by omega),(QgV hmv (by omega) c5),rfl,hs.take 1⟩
  omega
 replace c3:=QQ2 c3
 refine QaJ (Qag (Qab (Qaa (Qac (V:=.slice a l.length c) rfl (Qaa (Qac (V:=I6 (i:Int)) rfl (Qaa (QkQ (l:=i) (h:=l.length) (m:=c) (n':=(m.drop i).length) Qp3 Qar.1 (hs.rd 0 rfl) rfl (.inr ⟨_,_,rfl,rfl⟩) (.inl ⟨rfl,rfl⟩) (.inl ⟨rfl,rfl⟩) (by omega) (by omega) (Nat.le_trans (show l.length<=m.length by omega) (Rd.roomM (hs.rd 0 rfl))) (Nat.le_refl _) (by simp only [List.length_take,List.length_drop]<;>omega) ?_))))))))
 refine Qaa (QjS QlN hs 0 rfl rfl (by rw [QQ6]<;>omega) (by simp only [QQ6,List.length_drop]<;>omega) (by intro v hv;have e:=Qmx hv QvA;subst e;exact (by intro u hu;simp [Value.cells] at hu;subst hu;rfl)) fun w7 hs=>(Qae (Qag (Qab (Qaa (Qac (V:=.slice a l.length c) rfl (Qaa (Qac (V:=I6 (i:Int)) rfl (Qaa (QdU (l:=0) (h:=i) (n':=i) Qp3 Qar.1 (by omega) rfl (.inl ⟨rfl,rfl⟩) (.inr ⟨_,_,rfl,rfl⟩) (by omega) (by omega) (by omega) (Qaa (Qad (V:=.slice (sla a 0 c 1) i (c-0)) rfl (Qae (Qaw ?_))))))))))))))
 refine ⟨_,Qaq (V:=.slice (sla a 0 c 1) i (c-0)) Tryz.results67 rfl,?_⟩
 have he:=Qh3 hmv (by omega)
 have hil:i=(l.filter fun x=>!p x).length:=by rw [← he,List.length_take,hmv.1];omega
 replace hs:=hs.take 1
 simp only [List.set_cons_zero,List.take_succ_cons,List.take_zero,← List.map_take,he] at hs
 rw [← hil]
 refine ⟨(),?_,hs,trivial⟩
 rw [Qe1,Nat.sub_zero]
end Tt
end Go.Proofs
namespace Go.Proofs
open Go Go.Vx Go.RowKit
namespace Tt
theorem QtH (w:World) (n:Int) (bs bn bi:Nat) (s:Sta) (a1:Option Addr) (c1:Nat) (a2:Option Addr) (c2:Nat) (now idle:Int) (hnw:0<=idle/\idle<=now/\now<4294967296) (hok:Qdx s) (hle:s.ents.length<=1000) (hlt:s.ticks.length<=1000) (hcs:Qb8 w bs ((vc s.known)++[(.slice a1 s.ents.length c1:Value),(.slice a2 s.ticks.length c2:Value) ])) (hcn:Qb8 w bn [(.int .u32 now:Value)]) (hci:Qb8 w bi [(.int .u32 idle:Value)]) (hr1:Rd w (.slice a1 s.ents.length c1) 7 (s.ents.map cec)) (hr2:Rd w (.slice a2 s.ticks.length c2) 2 (s.ticks.map lsc)):Calls Tryz.prog 68 #[.int .u16 n,.pointer (some ⟨bs,0,none⟩),.pointer (some ⟨bn,0,none⟩),.pointer (some ⟨bi,0,none⟩)] w (fun e w'=>e = .returned (.bool (QgJ (QaI s n (Qav s)) now idle))/\Own w no w' []):=by
 refine Qai (n:=26) Tryz.func68 rfl Tryz.ntmps68 rfl ?_
 have hs:=Own.start w
 have ⟨hnw1,hnw2,hnw3⟩:=hnw
 refine Qag (Qab (Qaa (Qad (V:=.bool false) rfl (Qae (Qag (Qab (Qaa (Qmg (vs:=(vc s.known)++[(.slice a1 s.ents.length c1:Value),(.slice a2 s.ticks.length c2:Value) ]) QbU (hcs.own' hs) rfl rfl rfl (Qaa (Qac (V:=I7 n) rfl (Qaa (Qbm (α:=Option Addr × Nat) (vs:=[.agg ((vc s.known)++[(.slice a1 s.ents.length c1:Value),(.slice a2 s.ticks.length c2:Value) ]).toArray,I7 n]) (V:=fun x=>.agg #[I7 ((QaI s n (Qav s)).cart),.slice x.1 (((QaI s n (Qav s)).lines).length) x.2,.bool ((QaI s n (Qav s)).out),.int .u32 ((QaI s n (Qav s)).tick)]) (Lo:=fun x=>[row (.slice x.1 ((QaI s n (Qav s)).lines).length x.2) (((QaI s n (Qav s)).lines).map lc) 127 2]) (F:=fun _ _=>True) Qpd rfl rfl ?hc hs fun x2 w1 hs _=>?_))))))))))))
 case hc=>exact (QeG _ s a1 c1 a2 c2 n (QaI s n (Qav s):Vw) (rfl) hok hle hlt (Rd.own' hr1 hs) (Rd.own' hr2 hs))
 refine Qaa (QaK (cs:=[I7 0,.slice none 0 0,.bool false,.int .u32 0]) QhV rfl hs fun b3 w4 hs=>(Qaa (Qcx (V:=.agg #[I7 ((QaI s n (Qav s)).cart),.slice x2.1 (((QaI s n (Qav s)).lines).length) x2.2,.bool ((QaI s n (Qav s)).out),.int .u32 ((QaI s n (Qav s)).tick)]) (vs:=[I7 ((QaI s n (Qav s)).cart),.slice x2.1 (((QaI s n (Qav s)).lines).length) x2.2,.bool ((QaI s n (Qav s)).out),.int .u32 ((QaI s n (Qav s)).tick)]) (cs':=[I7 ((QaI s n (Qav s)).cart),.slice x2.1 (((QaI s n (Qav s)).lines).length) x2.2,.bool ((QaI s n (Qav s)).out),.int .u32 ((QaI s n (Qav s)).tick)]) QdQ.1 hs 1 rfl rfl rfl rfl rfl (QQ8 rfl) (Qau rfl (Qau rfl (Qau rfl (Qau rfl Qa1)))) (Qaz rfl) fun w5 hs=>(Qae (Qag (Qbw [some 10,some 11,some 12,some 13,some 14,some 15,some 16,some 17,some 18,some 19,some 20,some 21,some 22,some 23,some 24,some 25,some 5] [] [0,1,3,7,15,31,63,127,255,511,1023,511,511,6655,16383,32767,65535] [pv (Pq b3 (0+1)),pv (.slice x2.1 (((QaI s n (Qav s)).lines).length) x2.2),pv (I6 ((((QaI s n (Qav s)).lines).length:Nat):Int)),pv (.bool (decide (((((QaI s n (Qav s)).lines).length:Nat):Int)=0))),pv (.bool (decide (((((QaI s n (Qav s)).lines).length:Nat):Int)=0))),pg ((decide (((((QaI s n (Qav s)).lines).length:Nat):Int)=0)) == false) (Pq b3 (0+2)),pg ((decide (((((QaI s n (Qav s)).lines).length:Nat):Int)=0)) == false) (.bool ((QaI s n (Qav s)).out)),pv (.bool ((decide (((((QaI s n (Qav s)).lines).length:Nat):Int)=0))||((QaI s n (Qav s)).out))),pv (.bool ((decide (((((QaI s n (Qav s)).lines).length:Nat):Int)=0))||((QaI s n (Qav s)).out))),pg (((decide (((((QaI s n (Qav s)).lines).length:Nat):Int)=0))||((QaI s n (Qav s)).out)) == false) (Pq b3 (0+3)),pg (((decide (((((QaI s n (Qav s)).lines).length:Nat):Int)=0))||((QaI s n (Qav s)).out)) == false) (.int .u32 ((QaI s n (Qav s)).tick)),pg (((decide (((((QaI s n (Qav s)).lines).length:Nat):Int)=0))||((QaI s n (Qav s)).out)) == false) (.int .u32 now),pg (((decide (((((QaI s n (Qav s)).lines).length:Nat):Int)=0))||((QaI s n (Qav s)).out)) == false) (.int .u32 idle),pg (((decide (((((QaI s n (Qav s)).lines).length:Nat):Int)=0))||((QaI s n (Qav s)).out)) == false) (.int .u32 (now-idle)),pg (((decide (((((QaI s n (Qav s)).lines).length:Nat):Int)=0))||((QaI s n (Qav s)).out)) == false) (.bool (decide (now-idle<(QaI s n (Qav s)).tick))),pv (.bool (((decide (((((QaI s n (Qav s)).lines).length:Nat):Int)=0))||((QaI s n (Qav s)).out))||(decide (now-idle<(QaI s n (Qav s)).tick)))),pv (.bool (((decide (((((QaI s n (Qav s)).lines).length:Nat):Int)=0))||((QaI s n (Qav s)).out))||(decide (now-idle<(QaI s n (Qav s)).tick))))] (fun _ _=>_) [16] (by kernel_rfl) hs ⟨?_,?_,?_,?_,?_,?_,?_,?_,?_,?_,?_,?_,?_,?_,?_,?_,?_,trivial⟩ ?_))))))
 ·exact oa [] fun D J w hs=>Qaf Qev rfl (Zz hs)
 ·exact oa [0] fun D J w hs=>QaQ (V:=.slice x2.1 (((QaI s n (Qav s)).lines).length) x2.2) QiZ hs 1 rfl rfl rfl (Zz hs)
 ·exact oa [1] fun D J w hs=>Qa3 (n:=((QaI s n (Qav s)).lines).length) Qdy (hs.rd 0 rfl) (by simp) rfl (Zz hs)
 ·exact oa [2] fun D J w hs=>QaZ rfl rfl (Zz hs)
 ·exact oa [3] fun D J w hs=>Qac (V:=.bool (decide (((((QaI s n (Qav s)).lines).length:Nat):Int)=0))) rfl (Zz hs)
 ·exact og [4] fun D J w hG hs=>Qaf Qds rfl (Zz hs)
 ·exact oy [4,5] [5] fun D J w hG hs=>QaQ (V:=.bool ((QaI s n (Qav s)).out)) Qn5 hs 1 rfl rfl rfl (Zz hs)
 ·exact oa [4,6] fun D J w hs=>Qcs (h':=(QaI s n (Qav s)).out) rfl rfl rfl (Zz hs)
 ·exact oa [7] fun D J w hs=>Qac (V:=.bool ((decide (((((QaI s n (Qav s)).lines).length:Nat):Int)=0))||((QaI s n (Qav s)).out))) rfl (Zz hs)
 ·exact og [8] fun D J w hG hs=>Qaf Qn0 rfl (Zz hs)
 ·exact oy [8,9] [9] fun D J w hG hs=>QaQ (V:=.int .u32 ((QaI s n (Qav s)).tick)) QaX hs 1 rfl rfl rfl (Zz hs)
 ·exact og [8] fun D J w hG hs=>QoU (V:=.int .u32 now) QaX (hcn.own' hs) rfl rfl (Zz hs)
 ·exact og [8] fun D J w hG hs=>QoU (V:=.int .u32 idle) QaX (hci.own' hs) rfl rfl (Zz hs)
 ·exact oy [8,11,12] [11,12] fun D J w hG hs=>Qa5 (a:=now) (b:=idle) (c:=now-idle) rfl rfl (QgN (by omega) (by omega)) (Zz hs)
 ·exact oy [8,10,13] [10,13] fun D J w hG hs=>Qb2 rfl rfl (Zz hs)
 ·exact oa [8,14] fun D J w hs=>Qcs (h':=decide (now-idle<(QaI s n (Qav s)).tick)) rfl rfl rfl (Zz hs)
 ·exact oa [15] fun D J w hs=>Qad (V:=.bool (((decide (((((QaI s n (Qav s)).lines).length:Nat):Int)=0))||((QaI s n (Qav s)).out))||(decide (now-idle<(QaI s n (Qav s)).tick)))) rfl (Zz hs)
 rintro J1 w6 J2 hJ hs
 replace hJ:J2=upd (mix (sq 10 16++[5]) J1 _) 5 (.bool (((decide (((((QaI s n (Qav s)).lines).length:Nat):Int)=0))||((QaI s n (Qav s)).out))||(decide (now-idle<(QaI s n (Qav s)).tick)))):=hJ
 subst hJ
 refine Qaw ?_
 refine ⟨_,Qaq (V:=.bool (((decide (((((QaI s n (Qav s)).lines).length:Nat):Int)=0))||((QaI s n (Qav s)).out))||(decide (now-idle<(QaI s n (Qav s)).tick)))) Tryz.results68 rfl,(Zr hs ?_)⟩
 rfl
end Tt
end Go.Proofs
namespace Go.Proofs
open Go Go.Vx Go.RowKit
namespace Tt
theorem QuC (w:World) (p:Pst) (a1:Option Addr) (c1:Nat) (a2:Option Addr) (c2:Nat) (a3:Option Addr) (c3:Nat) (cut:Vec) (hcut:QbM cut) (now idle:Int) (hb2:(0<=now/\now<4294967296)/\0<=idle) (hsortE:QgH Tryz.prog 48 49 cec 106 7 QkG) (hsortU:QgC Tryz.prog 134 .u16 32) (hok:Qdq p) (hle:p.base.ents.length<=400) (hlt:p.base.ticks.length<=400) (hlo:p.ops.length<=400) (hr1:Rd w (.slice a1 p.base.ents.length c1) 7 (p.base.ents.map cec)) (hr2:Rd w (.slice a2 p.base.ticks.length c2) 2 (p.base.ticks.map lsc)) (hr3:Rd w (.slice a3 p.ops.length c3) 23 (p.ops.map oc)):Calls Tryz.prog 25 #[.agg (((vc p.base.known)++[(.slice a1 p.base.ents.length c1:Value),(.slice a2 p.base.ticks.length c2:Value) ])++[(.slice a3 p.ops.length c3:Value) ]++(vc p.known)).toArray,.agg (vc cut).toArray,.int .u32 now,.int .u32 idle] w (fun e w'=>∃ x:Option Addr × Nat,e = .returned (.tuple #[.slice x.1 (abR p cut now idle).length x.2,.int .i64 (abI p cut now idle)])/\Own w no w' [row (.slice x.1 (abR p cut now idle).length x.2) ((abR p cut now idle).map (ic .u16)) 32 1]/\True):=by
 refine Qai (n:=30) Tryz.func25 rfl Tryz.ntmps25 rfl ?_
 have hs:=Own.start w
 have ⟨hokb,hoko,hokk⟩:=hok
 have hsl:=QdK p cut
 have hso:=QeJ (cut:=cut) hok hcut
 have hcl:=Qir (Qah p cut)
 refine Qag (Qab (Qaa (Qa4 (V:=.agg (((vc p.base.known)++[(.slice a1 p.base.ents.length c1:Value),(.slice a2 p.base.ticks.length c2:Value) ])++[(.slice a3 p.ops.length c3:Value) ]++(vc p.known)).toArray) (cs:=((vc p.base.known)++[(.slice a1 p.base.ents.length c1:Value),(.slice a2 p.base.ticks.length c2:Value) ])++[(.slice a3 p.ops.length c3:Value) ]++(vc p.known)) rfl rfl hs fun b1 w2 hs=>(Qaa (Qa4 (V:=.agg (vc cut).toArray) (cs:=vc cut) rfl rfl hs fun b3 w4 hs=>(Qaa (Qa4 (V:=.int .u32 now) (cs:=[.int .u32 now]) rfl rfl hs fun b5 w6 hs=>(Qaa (Qa4 (V:=.int .u32 idle) (cs:=[.int .u32 idle]) rfl rfl hs fun b7 w8 hs=>?_)))))))))
 replace hs:Own w no w8 [blk b1 (((vc p.base.known)++[(.slice a1 p.base.ents.length c1:Value),(.slice a2 p.base.ticks.length c2:Value) ])++[(.slice a3 p.ops.length c3:Value) ]++(vc p.known)) 43,blk b3 (vc cut) 24,blk b5 [.int .u32 now] 22,blk b7 [.int .u32 idle] 22]:=hs
 refine Qaa (Qad (V:=.slice none 0 0) rfl (Qaa (Qad (V:=I6 0) rfl (Qae (Qag (Qab (Qaa (QaL (cs:=((vc p.base.known)++[(.slice a1 p.base.ents.length c1:Value),(.slice a2 p.base.ticks.length c2:Value) ])++[(.slice a3 p.ops.length c3:Value) ]++(vc p.known)) QcU hs 0 rfl rfl rfl (Qaa (QaL (cs:=vc cut) Qbk hs 1 rfl rfl rfl (Qaa (Qbm (α:=(Option Addr × Nat) × (Option Addr × Nat)) (vs:=[.agg (((vc p.base.known)++[(.slice a1 p.base.ents.length c1:Value),(.slice a2 p.base.ticks.length c2:Value) ])++[(.slice a3 p.ops.length c3:Value) ]++(vc p.known)).toArray,.agg (vc cut).toArray]) (V:=fun x:(Option Addr × Nat) × (Option Addr × Nat)=>.tuple #[.agg (vc (Qah p cut).known++[(.slice x.1.1 ((Qah p cut).ents).length x.1.2:Value),(.slice x.2.1 ((Qah p cut).ticks).length x.2.2:Value)]).toArray,I6 (Qbh p cut)]) (Lo:=fun x=>[row (.slice x.1.1 ((Qah p cut).ents).length x.1.2) (((Qah p cut).ents).map cec) 106 7,row (.slice x.2.1 ((Qah p cut).ticks).length x.2.2) (((Qah p cut).ticks).map lsc) 102 2]) (F:=fun _ _=>True) QnE rfl rfl ?hc hs fun x10 w9 hs _=>?_))))))))))))
 case hc=>exact (Qd0 _ p a1 c1 a2 c2 a3 c3 cut hcut hsortE hsortU hok hle hlt hlo (Rd.own' hr1 hs) (Rd.own' hr2 hs) (Rd.own' hr3 hs))
 refine Qaa (Qac (V:=.tuple #[.agg ((vc ((Qah p cut).known))++[(.slice x10.1.1 (((Qah p cut).ents).length) x10.1.2:Value),(.slice x10.2.1 (((Qah p cut).ticks).length) x10.2.2:Value) ]).toArray,I6 (Qbh p cut)]) rfl (Qaa (QaA (V:=.agg ((vc ((Qah p cut).known))++[(.slice x10.1.1 (((Qah p cut).ents).length) x10.1.2:Value),(.slice x10.2.1 (((Qah p cut).ticks).length) x10.2.2:Value) ]).toArray) rfl rfl (Qaa (QaA (V:=I6 (Qbh p cut)) rfl rfl (Qaa (QaK (cs:=(vc vzero)++[(.slice none 0 0:Value),(.slice none 0 0:Value) ]) QfB rfl hs fun b11 w12 hs=>(Qaa (Qcx (V:=.agg ((vc ((Qah p cut).known))++[(.slice x10.1.1 (((Qah p cut).ents).length) x10.1.2:Value),(.slice x10.2.1 (((Qah p cut).ticks).length) x10.2.2:Value) ]).toArray) (vs:=(vc ((Qah p cut).known))++[(.slice x10.1.1 (((Qah p cut).ents).length) x10.1.2:Value),(.slice x10.2.1 (((Qah p cut).ticks).length) x10.2.2:Value) ]) (cs':=(vc ((Qah p cut).known))++[(.slice x10.1.1 (((Qah p cut).ents).length) x10.1.2:Value),(.slice x10.2.1 (((Qah p cut).ticks).length) x10.2.2:Value) ]) QbU.1 hs 6 rfl rfl rfl rfl rfl (QQ8 rfl) (Qbl (QbO _) (Qau rfl (Qau rfl Qa1))) (Qaz rfl) fun w13 hs=>(Qaa (Qad (V:=I6 (Qbh p cut)) rfl (Qae (Qag (Qan (Qag (Qab (Qaa (Qac (V:=I6 (Qbh p cut)) rfl (Qaa (Qcv rfl rfl (Qaa (Qad (V:=.bool (!decide (Qbh p cut=0))) rfl (Qae (Qam (t:=!decide (Qbh p cut=0)) rfl (fun c14=>?_) (fun c14=>?_)))))))))))))))))))))))))
 ·
  replace c14:=Qby c14
  replace c14:=QQ2 c14
  refine Qag (Qab (Qaa (Qac (V:=I6 (Qbh p cut)) rfl (Qaa (Qad (V:=.slice none 0 0) rfl (Qaa (Qad (V:=I6 (Qbh p cut)) rfl (Qae (Qaw ?_)))))))))
  refine ⟨_,QbI (U:=.slice none 0 0) (V:=I6 (Qbh p cut)) Tryz.results25 rfl rfl,?_⟩
  have hX:abI p cut now idle=Qbh p cut:=QuW c14
  rw [Quk (by rw [hX];exact c14),hX]
  exact ⟨(none,0),rfl,(hs.take 0).more _ (Qbd _ _ _ _),trivial⟩
 replace c14:=Qbu c14
 replace c14:=QQ1 c14
 refine Qag (Qab (Qaa (QaQ (V:=.int .u32 idle) QaX hs 3 rfl rfl rfl (Qaa (QaQ (V:=.int .u32 now) QaX hs 2 rfl rfl rfl (Qaa (Qb2 rfl rfl (Qaa (Qad (V:=.bool (decide (now<idle))) rfl (Qae (Qam (t:=decide (now<idle)) rfl (fun c15=>?_) (fun c15=>?_))))))))))))
 ·
  replace c15:=QQ1 c15
  refine Qag (Qab (Qaa (Qad (V:=.slice none 0 0) rfl (Qaa (Qad (V:=I6 2) rfl (Qae (Qaw ?_)))))))
  refine ⟨_,QbI (U:=.slice none 0 0) (V:=I6 2) Tryz.results25 rfl rfl,?_⟩
  have hX:abI p cut now idle=2:=QvX c14 c15
  rw [Quk (by rw [hX];decide),hX]
  exact ⟨(none,0),rfl,(hs.take 0).more _ (Qbd _ _ _ _),trivial⟩
 replace c15:=QQ2 c15
 refine Qao (Qag ?_)
 have hnow:0<=idle/\idle<=now/\now<4294967296:=by omega
 refine Qab (Qaa (QaL (cs:=(vc ((Qah p cut).known))++[(.slice x10.1.1 (((Qah p cut).ents).length) x10.1.2:Value),(.slice x10.2.1 (((Qah p cut).ticks).length) x10.2.2:Value) ]) QbU hs 6 rfl rfl rfl (Qaa (Qbm (vs:=[.agg ((vc ((Qah p cut).known))++[(.slice x10.1.1 (((Qah p cut).ents).length) x10.1.2:Value),(.slice x10.2.1 (((Qah p cut).ticks).length) x10.2.2:Value) ]).toArray]) (V:=fun x:Option Addr × Nat=>.slice x.1 (Qay (Qah p cut)).length x.2) Qsy rfl rfl (Qif _ (Qah p cut) x10.1.1 x10.1.2 x10.2.1 x10.2.2 hso (by omega) (by omega) (hs.rd 4 rfl) (hs.rd 5 rfl)) hs fun x16 w17 hs _=>?_))))
 replace hs:Own w no w17 [blk b1 (((vc p.base.known)++[(.slice a1 p.base.ents.length c1:Value),(.slice a2 p.base.ticks.length c2:Value) ])++[(.slice a3 p.ops.length c3:Value) ]++(vc p.known)) 43,blk b3 (vc cut) 24,blk b5 [.int .u32 now] 22,blk b7 [.int .u32 idle] 22,row (.slice x10.1.1 (((Qah p cut).ents).length) x10.1.2) (((Qah p cut).ents).map cec) 106 7,row (.slice x10.2.1 (((Qah p cut).ticks).length) x10.2.2) (((Qah p cut).ticks).map lsc) 102 2,blk b11 ((vc ((Qah p cut).known))++[(.slice x10.1.1 (((Qah p cut).ents).length) x10.1.2:Value),(.slice x10.2.1 (((Qah p cut).ticks).length) x10.2.2:Value) ]) 38,row (.slice x16.1 ((Qay (Qah p cut)).length) x16.2) ((Qay (Qah p cut)).map (ic .u16)) 32 1]:=hs
 refine Qaa (Qc3 (cs:=[Pq b11 0,Pq b5 0,Pq b7 0]) rfl rfl (Qaa (Qi2 (α:=Unit) (vs:=[.slice x16.1 ((Qay (Qah p cut)).length) x16.2,.func (.func 68) #[] #[Pq b11 0,Pq b5 0,Pq b7 0]]) (V:=fun _=>.slice x16.1 ((Qay (Qah p cut)).filter fun x=>!(fun n=>QgJ (QaO p cut n) now idle) x).length x16.2) (R:=row (.slice x16.1 ((Qay (Qah p cut)).length) x16.2) ((Qay (Qah p cut)).map (ic .u16)) 32 1) (R':=fun _=>row (.slice x16.1 ((Qay (Qah p cut)).filter fun x=>!(fun n=>QgJ (QaO p cut n) now idle) x).length x16.2) (((Qay (Qah p cut)).filter fun x=>!(fun n=>QgJ (QaO p cut n) now idle) x).map (ic .u16)) 32 1) (Lo:=fun _=>[]) (F:=fun _ _=>True) Qu5 rfl rfl hs 7 rfl (fun S hS hlS hK=>Qon _ S x16.1 x16.2 (Qay (Qah p cut)) 68 [Pq b11 0,Pq b5 0,Pq b7 0] Qvh (fun n=>QgJ (QaO p cut n) now idle) (fun w1 L1 h x hx=>QtH w1 x b11 b5 b7 (Qah p cut) x10.1.1 x10.1.2 x10.2.1 x10.2.2 now idle hnow hso (by omega) (by omega) ((hK 6 (by decide) _ rfl).cells h) ((hK 2 (by decide) _ rfl).cells h) ((hK 3 (by decide) _ rfl).cells h) ((hK 4 (by decide) _ rfl).rd h) ((hK 5 (by decide) _ rfl).rd h)) hS hlS) fun _ w18 hs _=>(Qaa (Qad (V:=.slice x16.1 (((Qay (Qah p cut)).filter fun x=>!(fun n=>QgJ (QaO p cut n) now idle) x).length) x16.2) rfl (Qaa (Qad (V:=I6 0) rfl (Qae (Qaw ?_)))))))))
 refine ⟨_,QbI (U:=.slice x16.1 (((Qay (Qah p cut)).filter fun x=>!(fun n=>QgJ (QaO p cut n) now idle) x).length) x16.2) (V:=I6 0) Tryz.results25 rfl rfl,?_⟩
 have hX:abI p cut now idle=0:=Qui c14 c15
 rw [Qp1 hX,hX]
 exact ⟨(x16.1,x16.2),rfl,hs.only 7 rfl,trivial⟩
end Tt
end Go.Proofs
namespace Go.Proofs
open Go Go.Vx Go.RowKit
namespace Tt
theorem Qlv (w:World) (hsortE:QgH Tryz.prog 48 49 cec 106 7 QkG) (hsortU:QgC Tryz.prog 134 .u16 32):Calls Tryz.prog 10 #[] w (fun e w'=>e = .returned (.bool true)/\Own w no w' []):=by
 refine Qai (n:=101) Tryz.func10 rfl Tryz.ntmps10 rfl ?_
 have hs:=Own.start w
 refine Qag (Qab (Qaa (Qad (V:=.bool false) rfl (Qae (Qag (Qab (Qaa (QbD (vs:=[(1,.int .u32 1)]) (cs:=dc (⟨0,1⟩:Dot)) QuP (rfl) rfl (Qaa (QaU (V:=.agg (oc (⟨(⟨0,1⟩:Dot),1,3,4,2,5,vzero⟩:Opn)).toArray) (V':=.agg (oc Qql).toArray) (QcC (vs:=[(0,.agg (dc (⟨0,1⟩:Dot)).toArray),(1,.int .u8 1),(2,I7 3),(3,I7 4),(4,I7 2),(5,.int .u32 5)]) (cs:=oc (⟨(⟨0,1⟩:Dot),1,3,4,2,5,vzero⟩:Opn)) [dc (⟨0,0⟩:Dot),[(.int .u8 0:Value)],[(I7 0:Value)],[(I7 0:Value)],[(I7 0:Value)],[(.int .u32 0:Value)],vc vzero] [dc (⟨0,1⟩:Dot),[(.int .u8 1:Value)],[(I7 3:Value)],[(I7 4:Value)],[(I7 2:Value)],[(.int .u32 5:Value)],vc vzero] QrJ rfl (rfl) rfl rfl ⟨rfl,rfl⟩) rfl (Qaa (QhQ (vals:=[.agg (oc Qql).toArray]) (ls:=List.map oc ([Qql]:List Opn)) Qi3 rfl rfl rfl (Qbi (enc:=oc) (fun _=>rfl) _) (QaV Qc7 _) (QQ8 rfl) hs fun b1 w2 hs=>(Qaa (QaU (V:=.agg (vc (vset vzero 0 1)).toArray) (V':=.agg (vc alK).toArray) (QbD (vs:=[(0,.int .u32 1)]) (cs:=vc (vset vzero 0 1)) QiG (rfl) rfl ⟨rfl,rfl⟩) rfl (Qaa (QcC (vs:=[(1,.slice (some ⟨b1,0,none⟩) 1 1),(2,.agg (vc alK).toArray)]) (cs:=((vc vzero)++[(.slice none 0 0:Value),(.slice none 0 0:Value) ])++[(.slice (some ⟨b1,0,none⟩) 1 1:Value) ]++(vc alK)) [(vc vzero)++[(.slice none 0 0:Value),(.slice none 0 0:Value) ],[(.slice none 0 0:Value)],vc vzero] [(vc vzero)++[(.slice none 0 0:Value),(.slice none 0 0:Value) ],[(.slice (some ⟨b1,0,none⟩) 1 1:Value)],vc alK] QqV rfl (rfl) rfl rfl (Qaa (QaK (cs:=((vc vzero)++[(.slice none 0 0:Value),(.slice none 0 0:Value) ])++[(.slice none 0 0:Value) ]++(vc vzero)) QoI rfl hs fun b3 w4 hs=>(Qaa (Qcx (V:=.agg (((vc vzero)++[(.slice none 0 0:Value),(.slice none 0 0:Value) ])++[(.slice (some ⟨b1,0,none⟩) 1 1:Value) ]++(vc alK)).toArray) (vs:=((vc vzero)++[(.slice none 0 0:Value),(.slice none 0 0:Value) ])++[(.slice (some ⟨b1,0,none⟩) 1 1:Value) ]++(vc alK)) (cs':=((vc vzero)++[(.slice none 0 0:Value),(.slice none 0 0:Value) ])++[(.slice (some ⟨b1,0,none⟩) 1 1:Value) ]++(vc alK)) QcU.1 hs 1 rfl rfl rfl rfl rfl (QQ8 rfl) (Qbl (Qbl (Qbl (QbO _) (Qau rfl (Qau rfl Qa1))) (Qau rfl Qa1)) (QbO _)) (Qaz rfl) fun w5 hs=>(Qae (Qag (Qab (Qaa (QaL (cs:=((vc vzero)++[(.slice none 0 0:Value),(.slice none 0 0:Value) ])++[(.slice (some ⟨b1,0,none⟩) 1 1:Value) ]++(vc alK)) QcU hs 1 rfl rfl rfl (Qaa (QaU (V:=.agg (vc (vset vzero 0 1)).toArray) (V':=.agg (vc alK).toArray) (QbD (vs:=[(0,.int .u32 1)]) (cs:=vc (vset vzero 0 1)) QiG (rfl) rfl ⟨rfl,rfl⟩) rfl (Qaa (Qbm (α:=Option Addr × Nat) (vs:=[.agg (((vc vzero)++[(.slice none 0 0:Value),(.slice none 0 0:Value) ])++[(.slice (some ⟨b1,0,none⟩) 1 1:Value) ]++(vc alK)).toArray,.agg (vc alK).toArray,I7 3]) (V:=fun x=>.tuple #[.agg #[I7 ((Qas alP alK 3).cart),.slice x.1 (((Qas alP alK 3).lines).length) x.2,.bool ((Qas alP alK 3).out),.int .u32 ((Qas alP alK 3).tick)],I6 (Qbh alP alK)]) (Lo:=fun x=>[row (.slice x.1 ((Qas alP alK 3).lines).length x.2) (((Qas alP alK 3).lines).map lc) 127 2]) (F:=fun _ _=>True) QpY rfl rfl ?hc hs fun x7 w6 hs _=>?_)))))))))))))))))))))))))))))
 case hc=>exact (QfG _ alP none 0 none 0 (some ⟨b1,0,none⟩) 1 alK QiE 3 hsortE hsortU Qg6 (by decide) (by decide) (by decide) (Rd.nil _ 7) (Rd.nil _ 2) (hs.rd 0 rfl))
 replace hs:Own w no w6 [row (.slice (some ⟨b1,0,none⟩) 1 1) ([Qql].map oc) 98 23,blk b3 (((vc vzero)++[(.slice none 0 0:Value),(.slice none 0 0:Value) ])++[(.slice (some ⟨b1,0,none⟩) 1 1:Value) ]++(vc alK)) 43,row (.slice x7.1 (((Qas alP alK 3).lines).length) x7.2) (((Qas alP alK 3).lines).map lc) 127 2]:=hs
 refine Qaa (Qac (V:=.tuple #[.agg #[I7 ((Qas alP alK 3).cart),.slice x7.1 (((Qas alP alK 3).lines).length) x7.2,.bool ((Qas alP alK 3).out),.int .u32 ((Qas alP alK 3).tick)],I6 (Qbh alP alK)]) rfl (Qaa (QaA (V:=.agg #[I7 ((Qas alP alK 3).cart),.slice x7.1 (((Qas alP alK 3).lines).length) x7.2,.bool ((Qas alP alK 3).out),.int .u32 ((Qas alP alK 3).tick)]) rfl rfl (Qaa (QaA (V:=I6 (Qbh alP alK)) rfl rfl (Qaa (QaK (cs:=[I7 0,.slice none 0 0,.bool false,.int .u32 0]) QhV rfl hs fun b8 w9 hs=>(Qaa (Qcx (V:=.agg #[I7 ((Qas alP alK 3).cart),.slice x7.1 (((Qas alP alK 3).lines).length) x7.2,.bool ((Qas alP alK 3).out),.int .u32 ((Qas alP alK 3).tick)]) (vs:=[I7 ((Qas alP alK 3).cart),.slice x7.1 (((Qas alP alK 3).lines).length) x7.2,.bool ((Qas alP alK 3).out),.int .u32 ((Qas alP alK 3).tick)]) (cs':=[I7 ((Qas alP alK 3).cart),.slice x7.1 (((Qas alP alK 3).lines).length) x7.2,.bool ((Qas alP alK 3).out),.int .u32 ((Qas alP alK 3).tick)]) QdQ.1 hs 3 rfl rfl rfl rfl rfl (QQ8 rfl) (Qau rfl (Qau rfl (Qau rfl (Qau rfl Qa1)))) (Qaz rfl) fun w10 hs=>(Qaa (Qad (V:=I6 (Qbh alP alK)) rfl (Qae (Qag (Qab (Qaa (QaL (cs:=((vc vzero)++[(.slice none 0 0:Value),(.slice none 0 0:Value) ])++[(.slice (some ⟨b1,0,none⟩) 1 1:Value) ]++(vc alK)) QcU hs 1 rfl rfl rfl (Qaa (QbD (vs:=[]) (cs:=vc vzero) QiG (rfl) rfl (Qaa (QaU (V:=.agg (vc (vset vzero 0 1)).toArray) (V':=.agg (vc alK).toArray) (QbD (vs:=[(0,.int .u32 1)]) (cs:=vc (vset vzero 0 1)) QiG (rfl) rfl ⟨rfl,rfl⟩) rfl (Qaa (Qbm (vs:=[.agg (((vc vzero)++[(.slice none 0 0:Value),(.slice none 0 0:Value) ])++[(.slice (some ⟨b1,0,none⟩) 1 1:Value) ]++(vc alK)).toArray,.agg (vc vzero).toArray,.agg (vc alK).toArray]) (V:=fun x:Option Addr × Nat=>.tuple #[.slice x.1 (Qa6 alP vzero alK).length x.2,I6 (QbK alP vzero alK)]) Qrq rfl rfl (Qhs _ alP none 0 none 0 (some ⟨b1,0,none⟩) 1 vzero alK QcD QiE hsortE hsortU Qg6 (by decide) (by decide) (by decide) (Rd.nil _ 7) (Rd.nil _ 2) (hs.rd 0 rfl)) hs fun x12 w11 hs _=>(Qaa (Qac (V:=.tuple #[.slice x12.1 ((Qa6 alP vzero alK).length) x12.2,I6 (QbK alP vzero alK)]) rfl (Qaa (QaA (V:=.slice x12.1 ((Qa6 alP vzero alK).length) x12.2) rfl rfl (Qaa (QaA (V:=I6 (QbK alP vzero alK)) rfl rfl (Qaa (Qad (V:=.slice x12.1 ((Qa6 alP vzero alK).length) x12.2) rfl (Qaa (Qad (V:=I6 (QbK alP vzero alK)) rfl (Qae (Qag (Qab (Qaa (QaL (cs:=((vc vzero)++[(.slice none 0 0:Value),(.slice none 0 0:Value) ])++[(.slice (some ⟨b1,0,none⟩) 1 1:Value) ]++(vc alK)) QcU hs 1 rfl rfl rfl (Qaa (QaU (V:=.agg (vc (vset vzero 0 1)).toArray) (V':=.agg (vc alK).toArray) (QbD (vs:=[(0,.int .u32 1)]) (cs:=vc (vset vzero 0 1)) QiG (rfl) rfl ⟨rfl,rfl⟩) rfl (Qaa (Qbm (vs:=[.agg (((vc vzero)++[(.slice none 0 0:Value),(.slice none 0 0:Value) ])++[(.slice (some ⟨b1,0,none⟩) 1 1:Value) ]++(vc alK)).toArray,.agg (vc alK).toArray,.int .u32 9,.int .u32 4]) (V:=fun x:Option Addr × Nat=>.tuple #[.slice x.1 (abR alP alK 9 4).length x.2,I6 (abI alP alK 9 4)]) QvP rfl rfl (QuC _ alP none 0 none 0 (some ⟨b1,0,none⟩) 1 alK QiE 9 4 ⟨⟨by decide,by decide⟩,by decide⟩ hsortE hsortU Qg6 (by decide) (by decide) (by decide) (Rd.nil _ 7) (Rd.nil _ 2) (hs.rd 0 rfl)) hs fun x14 w13 hs _=>?_)))))))))))))))))))))))))))))))))))))))))
 replace hs:Own w no w13 [row (.slice (some ⟨b1,0,none⟩) 1 1) ([Qql].map oc) 98 23,blk b3 (((vc vzero)++[(.slice none 0 0:Value),(.slice none 0 0:Value) ])++[(.slice (some ⟨b1,0,none⟩) 1 1:Value) ]++(vc alK)) 43,row (.slice x7.1 (((Qas alP alK 3).lines).length) x7.2) (((Qas alP alK 3).lines).map lc) 127 2,blk b8 [I7 ((Qas alP alK 3).cart),.slice x7.1 (((Qas alP alK 3).lines).length) x7.2,.bool ((Qas alP alK 3).out),.int .u32 ((Qas alP alK 3).tick)] 49,row (.slice x12.1 ((Qa6 alP vzero alK).length) x12.2) ((Qa6 alP vzero alK).map dfc) 83 5,row (.slice x14.1 ((abR alP alK 9 4).length) x14.2) ((abR alP alK 9 4).map (ic .u16)) 32 1]:=hs
 refine Qaa (Qac (V:=.tuple #[.slice x14.1 ((abR alP alK 9 4).length) x14.2,I6 (abI alP alK 9 4)]) rfl (Qaa (QaA (V:=.slice x14.1 ((abR alP alK 9 4).length) x14.2) rfl rfl (Qaa (QaA (V:=I6 (abI alP alK 9 4)) rfl rfl (Qaa (Qad (V:=.slice x14.1 ((abR alP alK 9 4).length) x14.2) rfl (Qaa (Qad (V:=I6 (abI alP alK 9 4)) rfl (Qae (Qag (Qab (Qaa (QaL (cs:=((vc vzero)++[(.slice none 0 0:Value),(.slice none 0 0:Value) ])++[(.slice (some ⟨b1,0,none⟩) 1 1:Value) ]++(vc alK)) QcU hs 1 rfl rfl rfl (Qaa (QaU (V:=.agg (vc (vset vzero 0 2)).toArray) (V':=.agg (vc Qdo).toArray) (QbD (vs:=[(0,.int .u32 2)]) (cs:=vc (vset vzero 0 2)) QiG (rfl) rfl ⟨rfl,rfl⟩) rfl (Qaa (Qbm (α:=Option Addr × Nat) (vs:=[.agg (((vc vzero)++[(.slice none 0 0:Value),(.slice none 0 0:Value) ])++[(.slice (some ⟨b1,0,none⟩) 1 1:Value) ]++(vc alK)).toArray,.agg (vc Qdo).toArray,I7 3]) (V:=fun x=>.tuple #[.agg #[I7 ((Qas alP Qdo 3).cart),.slice x.1 (((Qas alP Qdo 3).lines).length) x.2,.bool ((Qas alP Qdo 3).out),.int .u32 ((Qas alP Qdo 3).tick)],I6 (Qbh alP Qdo)]) (Lo:=fun x=>[row (.slice x.1 ((Qas alP Qdo 3).lines).length x.2) (((Qas alP Qdo 3).lines).map lc) 127 2]) (F:=fun _ _=>True) QpY rfl rfl ?hc hs fun x16 w15 hs _=>?_))))))))))))))))))
 case hc=>exact (QfG _ alP none 0 none 0 (some ⟨b1,0,none⟩) 1 Qdo Qq0 3 hsortE hsortU Qg6 (by decide) (by decide) (by decide) (Rd.nil _ 7) (Rd.nil _ 2) (hs.rd 0 rfl))
 refine Qaa (Qac (V:=.tuple #[.agg #[I7 ((Qas alP Qdo 3).cart),.slice x16.1 (((Qas alP Qdo 3).lines).length) x16.2,.bool ((Qas alP Qdo 3).out),.int .u32 ((Qas alP Qdo 3).tick)],I6 (Qbh alP Qdo)]) rfl (Qaa (QaA (V:=.agg #[I7 ((Qas alP Qdo 3).cart),.slice x16.1 (((Qas alP Qdo 3).lines).length) x16.2,.bool ((Qas alP Qdo 3).out),.int .u32 ((Qas alP Qdo 3).tick)]) rfl rfl (Qaa (QaA (V:=I6 (Qbh alP Qdo)) rfl rfl (Qaa (QaK (cs:=[I7 0,.slice none 0 0,.bool false,.int .u32 0]) QhV rfl hs fun b17 w18 hs=>(Qaa (Qcx (V:=.agg #[I7 ((Qas alP Qdo 3).cart),.slice x16.1 (((Qas alP Qdo 3).lines).length) x16.2,.bool ((Qas alP Qdo 3).out),.int .u32 ((Qas alP Qdo 3).tick)]) (vs:=[I7 ((Qas alP Qdo 3).cart),.slice x16.1 (((Qas alP Qdo 3).lines).length) x16.2,.bool ((Qas alP Qdo 3).out),.int .u32 ((Qas alP Qdo 3).tick)]) (cs':=[I7 ((Qas alP Qdo 3).cart),.slice x16.1 (((Qas alP Qdo 3).lines).length) x16.2,.bool ((Qas alP Qdo 3).out),.int .u32 ((Qas alP Qdo 3).tick)]) QdQ.1 hs 7 rfl rfl rfl rfl rfl (QQ8 rfl) (Qau rfl (Qau rfl (Qau rfl (Qau rfl Qa1)))) (Qaz rfl) fun w19 hs=>(Qaa (Qad (V:=I6 (Qbh alP Qdo)) rfl (Qae (Qag (Qab (Qaa (QaL (cs:=((vc vzero)++[(.slice none 0 0:Value),(.slice none 0 0:Value) ])++[(.slice (some ⟨b1,0,none⟩) 1 1:Value) ]++(vc alK)) QcU hs 1 rfl rfl rfl (Qaa (QaU (V:=.agg (vc (vset vzero 0 1)).toArray) (V':=.agg (vc alK).toArray) (QbD (vs:=[(0,.int .u32 1)]) (cs:=vc (vset vzero 0 1)) QiG (rfl) rfl ⟨rfl,rfl⟩) rfl (Qaa (Qbm (α:=(Option Addr × Nat) × (Option Addr × Nat)) (vs:=[.agg (((vc vzero)++[(.slice none 0 0:Value),(.slice none 0 0:Value) ])++[(.slice (some ⟨b1,0,none⟩) 1 1:Value) ]++(vc alK)).toArray,.agg (vc alK).toArray]) (V:=fun x:(Option Addr × Nat) × (Option Addr × Nat)=>.tuple #[.agg (vc (Qah alP alK).known++[(.slice x.1.1 ((Qah alP alK).ents).length x.1.2:Value),(.slice x.2.1 ((Qah alP alK).ticks).length x.2.2:Value)]).toArray,I6 (Qbh alP alK)]) (Lo:=fun x=>[row (.slice x.1.1 ((Qah alP alK).ents).length x.1.2) (((Qah alP alK).ents).map cec) 106 7,row (.slice x.2.1 ((Qah alP alK).ticks).length x.2.2) (((Qah alP alK).ticks).map lsc) 102 2]) (F:=fun _ _=>True) QnE rfl rfl ?hc hs fun x21 w20 hs _=>?_))))))))))))))))))))
 case hc=>exact (Qd0 _ alP none 0 none 0 (some ⟨b1,0,none⟩) 1 alK QiE hsortE hsortU Qg6 (by decide) (by decide) (by decide) (Rd.nil _ 7) (Rd.nil _ 2) (hs.rd 0 rfl))
 replace hs:Own w no w20 [row (.slice (some ⟨b1,0,none⟩) 1 1) ([Qql].map oc) 98 23,blk b3 (((vc vzero)++[(.slice none 0 0:Value),(.slice none 0 0:Value) ])++[(.slice (some ⟨b1,0,none⟩) 1 1:Value) ]++(vc alK)) 43,row (.slice x7.1 (((Qas alP alK 3).lines).length) x7.2) (((Qas alP alK 3).lines).map lc) 127 2,blk b8 [I7 ((Qas alP alK 3).cart),.slice x7.1 (((Qas alP alK 3).lines).length) x7.2,.bool ((Qas alP alK 3).out),.int .u32 ((Qas alP alK 3).tick)] 49,row (.slice x12.1 ((Qa6 alP vzero alK).length) x12.2) ((Qa6 alP vzero alK).map dfc) 83 5,row (.slice x14.1 ((abR alP alK 9 4).length) x14.2) ((abR alP alK 9 4).map (ic .u16)) 32 1,row (.slice x16.1 (((Qas alP Qdo 3).lines).length) x16.2) (((Qas alP Qdo 3).lines).map lc) 127 2,blk b17 [I7 ((Qas alP Qdo 3).cart),.slice x16.1 (((Qas alP Qdo 3).lines).length) x16.2,.bool ((Qas alP Qdo 3).out),.int .u32 ((Qas alP Qdo 3).tick)] 49,row (.slice x21.1.1 (((Qah alP alK).ents).length) x21.1.2) (((Qah alP alK).ents).map cec) 106 7,row (.slice x21.2.1 (((Qah alP alK).ticks).length) x21.2.2) (((Qah alP alK).ticks).map lsc) 102 2]:=hs
 refine Qaa (Qac (V:=.tuple #[.agg ((vc ((Qah alP alK).known))++[(.slice x21.1.1 (((Qah alP alK).ents).length) x21.1.2:Value),(.slice x21.2.1 (((Qah alP alK).ticks).length) x21.2.2:Value) ]).toArray,I6 (Qbh alP alK)]) rfl (Qaa (QaA (V:=.agg ((vc ((Qah alP alK).known))++[(.slice x21.1.1 (((Qah alP alK).ents).length) x21.1.2:Value),(.slice x21.2.1 (((Qah alP alK).ticks).length) x21.2.2:Value) ]).toArray) rfl rfl (Qaa (QaA (V:=I6 (Qbh alP alK)) rfl rfl (Qaa (QaK (cs:=(vc vzero)++[(.slice none 0 0:Value),(.slice none 0 0:Value) ]) QfB rfl hs fun b22 w23 hs=>(Qaa (Qcx (V:=.agg ((vc ((Qah alP alK).known))++[(.slice x21.1.1 (((Qah alP alK).ents).length) x21.1.2:Value),(.slice x21.2.1 (((Qah alP alK).ticks).length) x21.2.2:Value) ]).toArray) (vs:=(vc ((Qah alP alK).known))++[(.slice x21.1.1 (((Qah alP alK).ents).length) x21.1.2:Value),(.slice x21.2.1 (((Qah alP alK).ticks).length) x21.2.2:Value) ]) (cs':=(vc ((Qah alP alK).known))++[(.slice x21.1.1 (((Qah alP alK).ents).length) x21.1.2:Value),(.slice x21.2.1 (((Qah alP alK).ticks).length) x21.2.2:Value) ]) QbU.1 hs 10 rfl rfl rfl rfl rfl (QQ8 rfl) (Qbl (QbO _) (Qau rfl (Qau rfl Qa1))) (Qaz rfl) fun w24 hs=>(Qaa (Qad (V:=I6 (Qbh alP alK)) rfl (Qae (Qag ?_)))))))))))))
 have hdl:(Qa6 alP vzero alK).length=1:=by rw [QrZ];rfl
 refine Qab (Qaa (Qac (V:=I6 (Qbh alP alK)) rfl (Qaa (QaU (V:=.bool (decide (Qbh alP alK=0))) (V':=.bool true) (QaZ rfl rfl ⟨rfl,rfl⟩) (congrArg Value.bool (QQ3 Qfg)) (Qaa (Qac (V:=.bool true) rfl (Qcq rfl (Qaf Qev rfl (Qcq rfl (QaQ (V:=.slice x7.1 (((Qas alP alK 3).lines).length) x7.2) QiZ hs 3 rfl rfl rfl (Qcq rfl (Qa3 (n:=((Qas alP alK 3).lines).length) Qdy (hs.rd 2 rfl) (by simp) rfl (Qcq rfl (QaU (V:=.bool (decide (((((Qas alP alK 3).lines).length:Nat):Int)=1))) (V':=.bool true) (QaZ rfl rfl ⟨rfl,rfl⟩) (congrArg Value.bool (by rw [Qsa];rfl)) (Qaa (QcE (V:=.bool true) rfl rfl (Qaa (Qac (V:=.bool true) rfl (Qcq rfl (Qac (V:=I6 (QbK alP vzero alK)) rfl (Qcq rfl (QaU (V:=.bool (decide (QbK alP vzero alK=0))) (V':=.bool true) (QaZ rfl rfl ⟨rfl,rfl⟩) (congrArg Value.bool (QQ3 QtX)) (Qaa (QcE (V:=.bool true) rfl rfl (Qaa (Qac (V:=.bool true) rfl (Qcq rfl (Qac (V:=.slice x12.1 ((Qa6 alP vzero alK).length) x12.2) rfl (Qcq rfl (Qa3 (n:=(Qa6 alP vzero alK).length) QkT (hs.rd 4 rfl) (by simp) rfl (Qcq rfl (QaU (V:=.bool (decide ((((Qa6 alP vzero alK).length:Nat):Int)=1))) (V':=.bool true) (QaZ rfl rfl ⟨rfl,rfl⟩) (congrArg Value.bool (by rw [QrZ];rfl)) (Qaa (QcE (V:=.bool true) rfl rfl (Qaa (Qac (V:=.bool true) rfl (Qcq rfl (Qac (V:=.slice x12.1 ((Qa6 alP vzero alK).length) x12.2) rfl (Qcq rfl (Qax QkT QfF.1 (hs.rd 4 rfl) rfl rfl (by decide) (by rw [QQ6];omega) (Qcq rfl (Qbb (j:=0) (vs:=dfc (gd (Qa6 alP vzero alK) 0)) 0 QfF (hs.rd 4 rfl) (Qba (by omega)) rfl rfl rfl (by omega) (Qcq rfl (QbD (vs:=[(0,I7 3),(1,I7 4),(4,.int .u32 2)]) (cs:=dfc (⟨3,4,false,0,2⟩:Dif)) QmH (rfl) rfl (Qcq rfl (QaU (V:=.bool (decide (gd (Qa6 alP vzero alK) 0=(⟨3,4,false,0,2⟩:Dif)))) (V':=.bool true) (QoR (xs:=dfc (gd (Qa6 alP vzero alK) 0)) (ys:=dfc (⟨3,4,false,0,2⟩:Dif)) Tryz.eqGuardType83 (Quz (gd (Qa6 alP vzero alK) 0) (⟨3,4,false,0,2⟩:Dif)) rfl rfl rfl ⟨rfl,rfl⟩) (congrArg Value.bool (by rw [QrZ];rfl)) (Qaa (QcE (V:=.bool true) rfl rfl (Qaa (Qac (V:=.bool true) rfl (Qcq rfl (Qac (V:=I6 (abI alP alK 9 4)) rfl (Qcq rfl (QaU (V:=.bool (decide (abI alP alK 9 4=0))) (V':=.bool true) (QaZ rfl rfl ⟨rfl,rfl⟩) (congrArg Value.bool (QQ3 Qtc)) (Qaa (QcE (V:=.bool true) rfl rfl (Qaa (Qac (V:=.bool true) rfl (Qcq rfl (Qac (V:=.slice x14.1 ((abR alP alK 9 4).length) x14.2) rfl (Qcq rfl (Qa3 (n:=(abR alP alK 9 4).length) QaN (hs.rd 5 rfl) (by simp) rfl (Qcq rfl (QaU (V:=.bool (decide ((((abR alP alK 9 4).length:Nat):Int)=1))) (V':=.bool true) (QaZ rfl rfl ⟨rfl,rfl⟩) (congrArg Value.bool (by rw [Qvq];rfl)) (Qaa (QcE (V:=.bool true) rfl rfl (Qaa (Qac (V:=.bool true) rfl (Qcq rfl (Qac (V:=I6 (Qbh alP Qdo)) rfl (Qcq rfl (QaU (V:=.bool (decide (Qbh alP Qdo=11))) (V':=.bool true) (QaZ rfl rfl ⟨rfl,rfl⟩) (congrArg Value.bool (QQ3 QrG)) (Qaa (QcE (V:=.bool true) rfl rfl (Qaa (Qac (V:=.bool true) rfl (Qcq rfl (Qac (V:=I6 (Qbh alP alK)) rfl (Qcq rfl (QaU (V:=.bool (decide (Qbh alP alK=0))) (V':=.bool true) (QaZ rfl rfl ⟨rfl,rfl⟩) (congrArg Value.bool (QQ3 Qfg)) ?_))))))))))))))))))))))))))))))))))))))))))))))))))))))))))))))))))))))))))))))))
 refine Qaa (QcE (V:=.bool true) rfl rfl (Qaa (Qac (V:=.bool true) rfl (Qcq rfl (Qaf Qdb rfl (Qcq rfl (QaQ (V:=.slice x21.1.1 (((Qah alP alK).ents).length) x21.1.2) Qgf hs 10 rfl rfl rfl (Qcq rfl (Qa3 (n:=((Qah alP alK).ents).length) QbC (hs.rd 8 rfl) (by simp) rfl (Qcq rfl (QaU (V:=.bool (decide (((((Qah alP alK).ents).length:Nat):Int)=1))) (V':=.bool true) (QaZ rfl rfl ⟨rfl,rfl⟩) (congrArg Value.bool (by rw [Qrp];rfl)) (Qaa (QcE (V:=.bool true) rfl rfl (Qaa (Qac (V:=.bool true) rfl (Qcq rfl (QaL (cs:=((vc vzero)++[(.slice none 0 0:Value),(.slice none 0 0:Value) ])++[(.slice (some ⟨b1,0,none⟩) 1 1:Value) ]++(vc alK)) QcU hs 1 rfl rfl rfl (Qcq rfl (QaU (V:=.agg (vc (vset (vset vzero 0 0) 1 1)).toArray) (V':=.agg (vc Qst).toArray) (QbD (vs:=[(0,.int .u32 0),(1,.int .u32 1)]) (cs:=vc (vset (vset vzero 0 0) 1 1)) QiG (rfl) rfl ⟨rfl,rfl⟩) rfl (Qcq rfl (Qat (vs:=[.agg (((vc vzero)++[(.slice none 0 0:Value),(.slice none 0 0:Value) ])++[(.slice (some ⟨b1,0,none⟩) 1 1:Value) ]++(vc alK)).toArray,.agg (vc Qst).toArray]) (V:=I6 (Qbh alP Qst)) Qtr rfl rfl ?hc hs fun w25 hs=>?_)))))))))))))))))))))
 case hc=>exact (QnR _ alP none 0 none 0 (some ⟨b1,0,none⟩) 1 Qst Qrl Qg6 (by decide) (by decide) (by decide) (Rd.nil _ 7) (Rd.nil _ 2) (hs.rd 0 rfl))
 refine Qcq rfl (QaU (V:=.bool (decide (Qbh alP Qst=11))) (V':=.bool true) (QaZ rfl rfl ⟨rfl,rfl⟩) (congrArg Value.bool (QQ3 Qsi)) (Qaa (QcE (V:=.bool true) rfl rfl (Qaa (Qad (V:=.bool true) rfl (Qae (Qaw ?_)))))))
 refine ⟨_,Qaq (V:=.bool true) Tryz.results10 rfl,(Zr hs ?_)⟩
 rfl
end Tt
end Go.Proofs
namespace Go.Proofs
open Go Go.Vx Go.RowKit
namespace Tt
theorem Qna (w:World) (S:Nat->Prop) (a:Option Addr) (c:Nat) (l:List Lst) (i:Nat) (hi:i<=l.length) (x:Lst) (b:Option Addr) (c2:Nat) (hv:Rd w (.slice b 1 c2) 2 (List.map lsc [x])) (hpl:Qd4 w (.slice b 1 c2)) (hnS:¬S (bkS (.slice b 1 c2))) (hvb:bkS (.slice b 1 c2)<w.heap.size) (hN:(l.length+1)*9<=140737488355328) (hR:(row (.slice a l.length c) (l.map lsc) 102 2).holds w S) (hlt:∀ b,S b->b<w.heap.size):Calls Tryz.prog 156 #[.slice a l.length c,.int .i64 (i:Int),.slice b 1 c2] w (fun e w'=>∃ x':Option Addr × Nat,e = .returned (.slice x'.1 (Qdu l i x).length x'.2)/\Own w S w' [row (.slice x'.1 (Qdu l i x).length x'.2) ((Qdu l i x).map lsc) 102 2]/\True):=by
 refine Qai (n:=95) Tryz.func156 rfl Tryz.ntmps156 rfl ?_
 have hs:=Own.lent hR hlt
 have hn:=(hs.rd 0 rfl).sml
 have hlc:=(hs.rd 0 rfl).roomM
 have hvo:∀ (w1:World) (L1:List Res),Own w S w1 L1->Rd w1 (.slice b 1 c2) 2 (List.map lsc [x]):=fun w1 L1 h=>hv.own h hnS
 refine Qag (Qab (Qaa (Qad (V:=.slice none 0 0) rfl (Qae (Qag (Qab (Qaa (Qac (V:=.slice a l.length c) rfl (Qaa (Qac (V:=I6 (i:Int)) rfl (Qaa (QkQ (l:=i) (h:=l.length) (m:=c) (n':=(l.drop i).length) QdP QbP.1 (hs.rd 0 rfl) rfl (.inr ⟨_,_,rfl,rfl⟩) (.inl ⟨rfl,rfl⟩) (.inl ⟨rfl,rfl⟩) (by omega) (by omega) (Nat.le_trans (show l.length<=l.length by omega) (Rd.roomM (hs.rd 0 rfl))) (Nat.le_refl _) (by simp only [List.length_take,List.length_drop]<;>omega) ?_))))))))))))
 refine Qae (Qag (Qab (Qaa (Qac (V:=.slice b 1 c2) rfl (Qaa (QaU (V:=I6 (1:Int)) (V':=I6 1) (Qa3 (n:=1) Qem (hvo _ _ hs) (by simp) rfl ⟨rfl,rfl⟩) rfl (Qaa (Qad (V:=I6 1) rfl (Qae (Qag (Qag (Qab (Qaa (Qac (V:=I6 1) rfl (Qaa (QaU (V:=.bool (decide ((1:Int)=0))) (V':=.bool false) (QaZ rfl rfl ⟨rfl,rfl⟩) (congrArg Value.bool (by decide)) (Qae (QbV rfl ?_))))))))))))))))))
 refine Qao (Qag (Qab (Qaa (Qac (V:=.slice a l.length c) rfl (Qaa (Qa3 (n:=l.length) Qem (hs.rd 0 rfl) (by simp) rfl (Qaa (Qad (V:=I6 ((l.length:Nat):Int)) rfl (Qae (Qag (Qag (Qab (Qaa (Qac (V:=I6 (i:Int)) rfl (Qaa (Qac (V:=I6 ((l.length:Nat):Int)) rfl (Qaa (QaZ rfl rfl (Qae (Qam (t:=decide ((i:Int)=((l.length:Nat):Int))) rfl (fun c1=>?_) (fun c1=>?_)))))))))))))))))))))
 ·
  replace c1:=QQ1 c1
  refine Qag (Qab (Qaa (Qac (V:=.slice a l.length c) rfl (Qaa (Qac (V:=.slice b 1 c2) rfl (Qaa (Qdi (ls':=(l++[x]).map lsc) (n:=(l++[x]).length) Qgx hs 0 rfl rfl rfl (hvo _ _ hs) (QaV Qcf _) (by simp only [QQ6,QQ7,List.length_cons,List.length_nil];omega) (by simp) (by simp) fun a2 c2 w3 hs=>(Qaa (Qad (V:=.slice a2 ((l++[x]).length) c2) rfl (Qae (Qaw ?_)))))))))))
  refine ⟨_,Qaq (V:=.slice a2 ((l++[x]).length) c2) Tryz.results156 rfl,?_⟩
  have hX:l++[x]=Qdu l i x:=QjV (by omega)
  rw [hX] at hs
  exact ⟨(a2,c2),by rw [← hX],hs.only 0 rfl,trivial⟩
 replace c1:=QQ2 c1
 refine Qao (Qag (Qag (Qab (Qaa (Qac (V:=I6 ((l.length:Nat):Int)) rfl (Qaa (Qac (V:=I6 1) rfl (Qaa (QaF (a:=((l.length:Nat):Int)) (b:=1) (c:=((l.length+1:Nat):Int)) rfl rfl (Qak (by omega) (by omega)) (Qaa (Qac (V:=.slice a l.length c) rfl (Qaa (Qp4 Qem rfl (Qaa (Qb2 rfl rfl (Qae (Qam (t:=decide ((c:Int)<((l.length+1:Nat):Int))) rfl (fun c4=>?_) (fun c4=>?_))))))))))))))))))
 ·
  replace c4:=QQ1 c4
  refine Qag (Qab (Qaa (Qac (V:=.slice a l.length c) rfl (Qaa (Qac (V:=I6 (i:Int)) rfl (Qaa (QdU (l:=0) (h:=i) (n':=i) QdP QbP.1 (by omega) rfl (.inl ⟨rfl,rfl⟩) (.inr ⟨_,_,rfl,rfl⟩) (by omega) (by omega) (by omega) (Qaa (Qac (V:=I6 ((l.length:Nat):Int)) rfl (Qaa (Qac (V:=I6 1) rfl (Qaa (QaF (a:=((l.length:Nat):Int)) (b:=1) (c:=((l.length+1:Nat):Int)) rfl rfl (Qak (by omega) (by omega)) (Qaa (Qac (V:=I6 (i:Int)) rfl (Qaa (Qa5 (a:=((l.length+1:Nat):Int)) (b:=(i:Int)) (c:=(((l.length+1)-i:Nat):Int)) rfl rfl (Qak (by omega) (by omega)) (Qaa (QqA (zl:=lsc (⟨0,0⟩:Lst)) (ls':=(l.take i++List.replicate ((l.length+1)-i) (⟨0,0⟩:Lst)).map lsc) Qgx QtG (.inl QkM) hs (hs.rd 0 rfl) rfl rfl (by rw [QQ6];omega) (by rw [QQ6];omega) (by omega) (by omega) (QaV Qcf _) (Qcf _) rfl (by omega) (by simp only [List.map_append,List.map_take,List.map_replicate]) (l.take i++List.replicate ((l.length+1)-i) (⟨0,0⟩:Lst)).length (by rw [QQ6]) fun a5 c5 w6 hs=>(Qaa (Qad (V:=.slice a5 ((l.take i++List.replicate ((l.length+1)-i) (⟨0,0⟩:Lst)).length) c5) rfl (Qae (Qag ?_)))))))))))))))))))))))
  have hq9:(l.take i++List.replicate ((l.length+1)-i) (⟨0,0⟩:Lst)).length=l.length+1:=by simp only [QQ7,List.length_take,List.length_replicate];omega
  have hr9:=(hs.rd 1 rfl).roomM
  refine Qab (Qaa (Qac (V:=.slice a5 ((l.take i++List.replicate ((l.length+1)-i) (⟨0,0⟩:Lst)).length) c5) rfl (Qaa (Qac (V:=I6 (i:Int)) rfl (Qaa (QdU (l:=i) (h:=(l.take i++List.replicate ((l.length+1)-i) (⟨0,0⟩:Lst)).length) (n':=((l.take i++List.replicate ((l.length+1)-i) (⟨0,0⟩:Lst)).length)-i) QdP QbP.1 (by omega) rfl (.inr ⟨_,_,rfl,rfl⟩) (.inl ⟨rfl,rfl⟩) (by omega) (by omega) (by omega) (Qaa (Qac (V:=.slice b 1 c2) rfl (Qaa (Qdk (lo:=i) (ms:=[x].map lsc) (ls':=((l.take i++List.replicate ((l.length+1)-i) (⟨0,0⟩:Lst)).take i++[x]++(l.take i++List.replicate ((l.length+1)-i) (⟨0,0⟩:Lst)).drop (i+[x].length)).map lsc) (n':=((l.take i++List.replicate ((l.length+1)-i) (⟨0,0⟩:Lst)).take i++[x]++(l.take i++List.replicate ((l.length+1)-i) (⟨0,0⟩:Lst)).drop (i+[x].length)).length) Qgx hs 1 rfl rfl rfl (by simp only [QQ6,List.length_drop,List.length_take,List.length_cons,List.length_nil,QQ7,List.length_replicate];omega) (Rd.srcs (hvo _ _ hs)) (Qbi (enc:=lsc) (fun _=>rfl) _) (QaV Qcf _) (by simp only [QQ6,List.length_drop,List.length_take,List.length_cons,List.length_nil,QQ7,List.length_replicate];omega) (by simp only [QQ6,List.length_drop,List.length_take,List.length_cons,List.length_nil,QQ7,List.length_replicate];omega) (by simp only [List.map_append,List.map_take,List.map_drop,List.map_cons,List.map_nil,QQ6,List.length_drop,List.length_take,List.length_cons,List.length_nil]) (by rw [QQ6]) fun w7 hs=>(Qae (Qag (QaH HM [some 46,some 47,some 48,some 49,some 50,some 51,some 52,some 53,some 54] [] [0,0,0,6,15,0,0,96,255] [pv (.slice a5 ((l.take i++List.replicate ((l.length+1)-i) (⟨0,0⟩:Lst)).length) c5),pv (I6 (i:Int)),pv (I6 1),pv (I6 ((i+1:Nat):Int)),pv (.slice (sla a5 (i+1) c5 2) (((l.take i++List.replicate ((l.length+1)-i) (⟨0,0⟩:Lst)).length)-(i+1)) (c5-(i+1))),pv (.slice a l.length c),pv (I6 (i:Int)),pv (.slice (sla a i c 2) ((l.drop i).length) (c-i)),pv (I6 (((List.map lsc (l.drop i)).length:Nat):Int))] (fun D J=>[row (.slice a l.length c) (l.map lsc) 102 2,cond (D 8) (row (.slice a5 ((((l.take i++List.replicate ((l.length+1)-i) (⟨0,0⟩:Lst)).take i++[x]++(l.take i++List.replicate ((l.length+1)-i) (⟨0,0⟩:Lst)).drop (i+[x].length)).take (i+1)++l.drop i++((l.take i++List.replicate ((l.length+1)-i) (⟨0,0⟩:Lst)).take i++[x]++(l.take i++List.replicate ((l.length+1)-i) (⟨0,0⟩:Lst)).drop (i+[x].length)).drop (i+1+(l.drop i).length)).length) c5) ((((l.take i++List.replicate ((l.length+1)-i) (⟨0,0⟩:Lst)).take i++[x]++(l.take i++List.replicate ((l.length+1)-i) (⟨0,0⟩:Lst)).drop (i+[x].length)).take (i+1)++l.drop i++((l.take i++List.replicate ((l.length+1)-i) (⟨0,0⟩:Lst)).take i++[x]++(l.take i++List.replicate ((l.length+1)-i) (⟨0,0⟩:Lst)).drop (i+[x].length)).drop (i+1+(l.drop i).length)).map lsc) 102 2) (row (.slice a5 (((l.take i++List.replicate ((l.length+1)-i) (⟨0,0⟩:Lst)).take i++[x]++(l.take i++List.replicate ((l.length+1)-i) (⟨0,0⟩:Lst)).drop (i+[x].length)).length) c5) (((l.take i++List.replicate ((l.length+1)-i) (⟨0,0⟩:Lst)).take i++[x]++(l.take i++List.replicate ((l.length+1)-i) (⟨0,0⟩:Lst)).drop (i+[x].length)).map lsc) 102 2)]) [] (by kernel_rfl) hs ⟨?_,?_,?_,?_,?_,?_,?_,?_,?_,trivial⟩ ?_)))))))))))))
  ·exact oa [] fun D J w hs=>Qac (V:=.slice a5 ((l.take i++List.replicate ((l.length+1)-i) (⟨0,0⟩:Lst)).length) c5) rfl (Zz hs)
  ·exact oa [] fun D J w hs=>Qac (V:=.int .i64 (i:Int)) rfl (Zz hs)
  ·exact oa [] fun D J w hs=>Qac (V:=.int .i64 1) rfl (Zz hs)
  ·exact oa [1,2] fun D J w hs=>QaF (a:=(i:Int)) (b:=1) (c:=((i+1:Nat):Int)) rfl rfl (Qak (by omega) (by omega)) (Zz hs)
  ·exact oa [0,3] fun D J w hs=>QdU (l:=i+1) (h:=(l.take i++List.replicate ((l.length+1)-i) (⟨0,0⟩:Lst)).length) (n':=((l.take i++List.replicate ((l.length+1)-i) (⟨0,0⟩:Lst)).length)-(i+1)) QdP QbP.1 (by omega) rfl (.inr ⟨_,_,rfl,rfl⟩) (.inl ⟨rfl,rfl⟩) (by omega) (by omega) (by omega) (Zz hs)
  ·exact oa [] fun D J w hs=>Qac (V:=.slice a l.length c) rfl (Zz hs)
  ·exact oa [] fun D J w hs=>Qac (V:=.int .i64 (i:Int)) rfl (Zz hs)
  ·exact oa [5,6] fun D J w hs=>QkQ (l:=i) (h:=l.length) (m:=c) (n':=(l.drop i).length) QdP QbP.1 (hs.rd 0 rfl) rfl (.inr ⟨_,_,rfl,rfl⟩) (.inl ⟨rfl,rfl⟩) (.inl ⟨rfl,rfl⟩) (by omega) (by omega) (Nat.le_trans (show l.length<=l.length by omega) (Rd.roomM (hs.rd 0 rfl))) (Nat.le_refl _) (by simp only [List.length_take,List.length_drop]<;>omega) (Zz hs)
  ·exact oa [4,7] fun D J w hs=>Qdk (lo:=i+1) (ms:=(l.drop i).map lsc) (ls':=(((l.take i++List.replicate ((l.length+1)-i) (⟨0,0⟩:Lst)).take i++[x]++(l.take i++List.replicate ((l.length+1)-i) (⟨0,0⟩:Lst)).drop (i+[x].length)).take (i+1)++l.drop i++((l.take i++List.replicate ((l.length+1)-i) (⟨0,0⟩:Lst)).take i++[x]++(l.take i++List.replicate ((l.length+1)-i) (⟨0,0⟩:Lst)).drop (i+[x].length)).drop (i+1+(l.drop i).length)).map lsc) (n':=(((l.take i++List.replicate ((l.length+1)-i) (⟨0,0⟩:Lst)).take i++[x]++(l.take i++List.replicate ((l.length+1)-i) (⟨0,0⟩:Lst)).drop (i+[x].length)).take (i+1)++l.drop i++((l.take i++List.replicate ((l.length+1)-i) (⟨0,0⟩:Lst)).take i++[x]++(l.take i++List.replicate ((l.length+1)-i) (⟨0,0⟩:Lst)).drop (i+[x].length)).drop (i+1+(l.drop i).length)).length) Qgx hs 1 rfl rfl rfl (by simp only [QQ6,List.length_drop,List.length_take,List.length_cons,List.length_nil,QQ7,List.length_replicate];omega) (Rd.srcs (Rd.dropM (hs.rd 0 rfl) i hi _ rfl)) (Qbi (enc:=lsc) (fun _=>rfl) _) (QaV Qcf _) (by simp only [QQ6,List.length_drop,List.length_take,List.length_cons,List.length_nil,QQ7,List.length_replicate];omega) (by simp only [QQ6,List.length_drop,List.length_take,List.length_cons,List.length_nil,QQ7,List.length_replicate];omega) (by simp only [List.map_append,List.map_take,List.map_drop,List.map_cons,List.map_nil,QQ6,List.length_drop,List.length_take,List.length_cons,List.length_nil]) (by rw [QQ6]) fun _ hs=>⟨rfl,hs⟩
  rintro J1 w9 J2 hJ hs
  replace hJ:J2=mix (sq 46 9) J1 _:=hJ
  replace hs:Own w S w9 [row (.slice a l.length c) (l.map lsc) 102 2,row (.slice a5 ((((l.take i++List.replicate ((l.length+1)-i) (⟨0,0⟩:Lst)).take i++[x]++(l.take i++List.replicate ((l.length+1)-i) (⟨0,0⟩:Lst)).drop (i+[x].length)).take (i+1)++l.drop i++((l.take i++List.replicate ((l.length+1)-i) (⟨0,0⟩:Lst)).take i++[x]++(l.take i++List.replicate ((l.length+1)-i) (⟨0,0⟩:Lst)).drop (i+[x].length)).drop (i+1+(l.drop i).length)).length) c5) ((((l.take i++List.replicate ((l.length+1)-i) (⟨0,0⟩:Lst)).take i++[x]++(l.take i++List.replicate ((l.length+1)-i) (⟨0,0⟩:Lst)).drop (i+[x].length)).take (i+1)++l.drop i++((l.take i++List.replicate ((l.length+1)-i) (⟨0,0⟩:Lst)).take i++[x]++(l.take i++List.replicate ((l.length+1)-i) (⟨0,0⟩:Lst)).drop (i+[x].length)).drop (i+1+(l.drop i).length)).map lsc) 102 2]:=hs
  subst hJ
  refine Qag (Qab (Qaa (Qac (V:=.slice a5 ((l.take i++List.replicate ((l.length+1)-i) (⟨0,0⟩:Lst)).length) c5) rfl (Qaa (Qad (V:=.slice a5 ((l.take i++List.replicate ((l.length+1)-i) (⟨0,0⟩:Lst)).length) c5) rfl (Qae (Qaw ?_)))))))
  refine ⟨_,Qaq (V:=.slice a5 ((l.take i++List.replicate ((l.length+1)-i) (⟨0,0⟩:Lst)).length) c5) Tryz.results156 rfl,?_⟩
  have hX:((l.take i++List.replicate ((l.length+1)-i) (⟨0,0⟩:Lst)).take i++[x]++(l.take i++List.replicate ((l.length+1)-i) (⟨0,0⟩:Lst)).drop (i+[x].length)).take (i+1)++l.drop i++((l.take i++List.replicate ((l.length+1)-i) (⟨0,0⟩:Lst)).take i++[x]++(l.take i++List.replicate ((l.length+1)-i) (⟨0,0⟩:Lst)).drop (i+[x].length)).drop (i+1+(l.drop i).length)=Qdu l i x:=Qko hi
  rw [hX] at hs
  exact ⟨(a5,c5),by rw [hq9,QfR hi],hs.only 1 rfl,trivial⟩
 replace c4:=QQ2 c4
 refine Qao (Qag (Qab (Qaa (Qac (V:=.slice a l.length c) rfl (Qaa (Qac (V:=I6 ((l.length:Nat):Int)) rfl (Qaa (Qac (V:=I6 1) rfl (Qaa (QaF (a:=((l.length:Nat):Int)) (b:=1) (c:=((l.length+1:Nat):Int)) rfl rfl (Qak (by omega) (by omega)) (Qaa (QaU (V:=.slice (sla a 0 c 2) (l.length+1) (c-0)) (V':=.slice a (l.length+1) c) (QdU (l:=0) (h:=l.length+1) (n':=l.length+1) QdP QbP.1 (by omega) rfl (.inl ⟨rfl,rfl⟩) (.inr ⟨_,_,rfl,rfl⟩) (by omega) (by omega) (by omega) ⟨rfl,rfl⟩) (by rw [Qe1];rfl) (Qaa (Qad (V:=.slice a (l.length+1) c) rfl (Qae (Qag (Qag (Qab (Qaa (Qac (V:=.slice b 1 c2) rfl (Qaa (Qac (V:=.slice a (l.length+1) c) rfl (Qaa (Qac (V:=I6 (i:Int)) rfl (Qaa (Qac (V:=I6 1) rfl (Qaa (QaF (a:=(i:Int)) (b:=1) (c:=((i+1:Nat):Int)) rfl rfl (Qak (by omega) (by omega)) (Qaa (QdU (l:=i+1) (h:=l.length+1) (n':=(l.length+1)-(i+1)) QdP QbP.1 (by omega) rfl (.inr ⟨_,_,rfl,rfl⟩) (.inl ⟨rfl,rfl⟩) (by omega) (by omega) (by omega) (Qaa (Qne (f:=168) (tR:=4) (lo:=i+1) Tryz.func168 (by kernel_rfl) (by kernel_rfl) (by kernel_rfl) (by kernel_rfl) QdP QbP.1 rfl hs 0 rfl (by rw [QQ6];omega) (by decide) rfl (hpl.own hs hnS) hnS hvb (by omega) rfl (Qaa (Qbz rfl (Qae (QcN rfl ?_))))))))))))))))))))))))))))))))))))
 refine Qag (QaH HM [some 69,some 70,some 71,some 72,some 73,some 74,some 75,some 76,some 77] [] [0,0,0,6,15,0,0,96,255] [pv (.slice a (l.length+1) c),pv (I6 (i:Int)),pv (I6 1),pv (I6 ((i+1:Nat):Int)),pv (.slice (sla a (i+1) c 2) ((l.length+1)-(i+1)) (c-(i+1))),pv (.slice a (l.length+1) c),pv (I6 (i:Int)),pv (.slice (sla a i c 2) ((l.length+1)-i) (c-i)),pv (I6 (((List.map lsc (l.drop i)).length:Nat):Int))] (fun D J=>[cond (D 8) (row (.slice a ((l.take (i+1)++l.drop i++l.drop (i+1+(l.drop i).length)).length) c) ((l.take (i+1)++l.drop i++l.drop (i+1+(l.drop i).length)).map lsc) 102 2) (row (.slice a l.length c) (l.map lsc) 102 2)]) [] (by kernel_rfl) hs ⟨?_,?_,?_,?_,?_,?_,?_,?_,?_,trivial⟩ ?_)
 ·exact oa [] fun D J w hs=>Qac (V:=.slice a (l.length+1) c) rfl (Zz hs)
 ·exact oa [] fun D J w hs=>Qac (V:=.int .i64 (i:Int)) rfl (Zz hs)
 ·exact oa [] fun D J w hs=>Qac (V:=.int .i64 1) rfl (Zz hs)
 ·exact oa [1,2] fun D J w hs=>QaF (a:=(i:Int)) (b:=1) (c:=((i+1:Nat):Int)) rfl rfl (Qak (by omega) (by omega)) (Zz hs)
 ·exact oa [0,3] fun D J w hs=>QdU (l:=i+1) (h:=l.length+1) (n':=(l.length+1)-(i+1)) QdP QbP.1 (by omega) rfl (.inr ⟨_,_,rfl,rfl⟩) (.inl ⟨rfl,rfl⟩) (by omega) (by omega) (by omega) (Zz hs)
 ·exact oa [] fun D J w hs=>Qac (V:=.slice a (l.length+1) c) rfl (Zz hs)
 ·exact oa [] fun D J w hs=>Qac (V:=.int .i64 (i:Int)) rfl (Zz hs)
 ·exact oa [5,6] fun D J w hs=>QdU (l:=i) (h:=l.length+1) (n':=(l.length+1)-i) QdP QbP.1 (by omega) rfl (.inr ⟨_,_,rfl,rfl⟩) (.inl ⟨rfl,rfl⟩) (by omega) (by omega) (by omega) (Zz hs)
 ·exact oa [4,7] fun D J w hs=>Qdk (lo:=i+1) (ms:=(l.drop i).map lsc) (ls':=(l.take (i+1)++l.drop i++l.drop (i+1+(l.drop i).length)).map lsc) (n':=(l.take (i+1)++l.drop i++l.drop (i+1+(l.drop i).length)).length) Qgx hs 0 rfl rfl rfl (by simp only [QQ6,List.length_drop,List.length_take,List.length_cons,List.length_nil,QQ7,List.length_replicate];omega) (Rd.srcs (Rd.dropM (hs.rd 0 rfl) i hi _ rfl)) (Qbi (enc:=lsc) (fun _=>rfl) _) (QaV Qcf _) (by simp only [QQ6,List.length_drop,List.length_take,List.length_cons,List.length_nil,QQ7,List.length_replicate];omega) (by simp only [QQ6,List.length_drop,List.length_take,List.length_cons,List.length_nil,QQ7,List.length_replicate];omega) (by simp only [List.map_append,List.map_take,List.map_drop,List.map_cons,List.map_nil,QQ6,List.length_drop,List.length_take,List.length_cons,List.length_nil]) (by rw [QQ6]) fun _ hs=>⟨rfl,hs⟩
 rintro J1 w11 J2 hJ hs
 replace hJ:J2=mix (sq 69 9) J1 _:=hJ
 replace hs:Own w S w11 [row (.slice a ((l.take (i+1)++l.drop i++l.drop (i+1+(l.drop i).length)).length) c) ((l.take (i+1)++l.drop i++l.drop (i+1+(l.drop i).length)).map lsc) 102 2]:=hs
 subst hJ
 refine Qag (Qab (Qaa (Qac (V:=.slice a (l.length+1) c) rfl (Qaa (Qac (V:=I6 (i:Int)) rfl (Qaa (QdU (l:=i) (h:=l.length+1) (n':=(l.length+1)-i) QdP QbP.1 (by omega) rfl (.inr ⟨_,_,rfl,rfl⟩) (.inl ⟨rfl,rfl⟩) (by omega) (by omega) (by omega) (Qaa (Qac (V:=.slice b 1 c2) rfl (Qaa (Qdk (lo:=i) (ms:=[x].map lsc) (ls':=((l.take (i+1)++l.drop i++l.drop (i+1+(l.drop i).length)).take i++[x]++(l.take (i+1)++l.drop i++l.drop (i+1+(l.drop i).length)).drop (i+[x].length)).map lsc) (n':=((l.take (i+1)++l.drop i++l.drop (i+1+(l.drop i).length)).take i++[x]++(l.take (i+1)++l.drop i++l.drop (i+1+(l.drop i).length)).drop (i+[x].length)).length) Qgx hs 0 rfl rfl rfl (by simp only [QQ6,List.length_drop,List.length_take,List.length_cons,List.length_nil,QQ7,List.length_replicate];omega) (Rd.srcs (hvo _ _ hs)) (Qbi (enc:=lsc) (fun _=>rfl) _) (QaV Qcf _) (by simp only [QQ6,List.length_drop,List.length_take,List.length_cons,List.length_nil,QQ7,List.length_replicate];omega) (by simp only [QQ6,List.length_drop,List.length_take,List.length_cons,List.length_nil,QQ7,List.length_replicate];omega) (by simp only [List.map_append,List.map_take,List.map_drop,List.map_cons,List.map_nil,QQ6,List.length_drop,List.length_take,List.length_cons,List.length_nil]) (by rw [QQ6]) fun w12 hs=>(Qae (Qag (Qab (Qaa (Qac (V:=.slice a (l.length+1) c) rfl (Qaa (Qad (V:=.slice a (l.length+1) c) rfl (Qae (Qaw ?_))))))))))))))))))))
 refine ⟨_,Qaq (V:=.slice a (l.length+1) c) Tryz.results156 rfl,?_⟩
 have hX:(l.take (i+1)++l.drop i++l.drop (i+1+(l.drop i).length)).take i++[x]++(l.take (i+1)++l.drop i++l.drop (i+1+(l.drop i).length)).drop (i+[x].length)=Qdu l i x:=QkI (by omega)
 rw [hX] at hs
 exact ⟨(a,c),by rw [QfR hi],hs.only 0 rfl,trivial⟩
end Tt
end Go.Proofs
namespace Go.Proofs
open Go Go.Vx Go.RowKit
namespace Tt
theorem Qso (w:World) (S:Nat->Prop) (b:Nat) (kn:Vec) (v1:Value) (a2:Option Addr) (c2:Nat) (ts:List Lst) (l:Lst) (hlt:ts.length<=10000) (hT:QdG ts) (hR:(star [blk b (vc kn++[(v1:Value),(.slice a2 ts.length c2:Value)]) 38,row (.slice a2 ts.length c2) (ts.map lsc) 102 2]).holds w S) (hlS:∀ x,S x->x<w.heap.size):Calls Tryz.prog 122 #[.pointer (some ⟨b,0,none⟩),.agg (lsc l).toArray] w (fun e w'=>∃ x:Option Addr × Nat,e = .returned (.tuple #[])/\Own w S w' [star [blk b (vc kn++[(v1:Value),(.slice x.1 (Qdv l.cart l.tick ts).length x.2:Value)]) 38,row (.slice x.1 (Qdv l.cart l.tick ts).length x.2) ((Qdv l.cart l.tick ts).map lsc) 102 2]]/\True):=by
 refine Qai (n:=46) Tryz.func122 rfl Tryz.ntmps122 rfl ?_
 have hs:=(Own.lent hR hlS).split 0 rfl
 have hpl:=QrO ts l.cart
 refine Qag (Qab (Qaa (Qa4 (V:=.agg (lsc l).toArray) (cs:=lsc l) rfl rfl hs fun b1 w2 hs=>(Qae (Qag (QaH HM [some 7,some 8,some 9,some 10,some 11,some 12,some 6,some 13,some 14,some 4,some 5] [] [0,1,3,0,8,31,63,127,127,255,1023] [pv (Pq b 0),pv (Pq b 0),pv (.agg ((vc kn)++[(v1:Value),(.slice a2 ts.length c2:Value) ]).toArray),pv (Pq b1 (0+0)),pv (I7 l.cart),pv (.tuple #[I6 ((QbL ts l.cart:Nat):Int),.bool ((QaM ts l.cart).isSome)]),pv (.tuple #[I6 ((QbL ts l.cart:Nat):Int),.bool ((QaM ts l.cart).isSome)]),pv (I6 ((QbL ts l.cart:Nat):Int)),pv (.bool ((QaM ts l.cart).isSome)),pv (I6 ((QbL ts l.cart:Nat):Int)),pv (.bool ((QaM ts l.cart).isSome))] (fun _ _=>_) [10,9] (by kernel_rfl) hs ⟨?_,?_,?_,?_,?_,?_,?_,?_,?_,?_,?_,trivial⟩ ?_))))))
 ·exact oa [] fun D J w hs=>Qac (V:=.pointer (some ⟨b,0,none⟩)) rfl (Zz hs)
 ·exact oa [0] fun D J w hs=>QcJ rfl (Zz hs)
 ·exact oa [1] fun D J w hs=>QaL (cs:=(vc kn)++[(v1:Value),(.slice a2 ts.length c2:Value) ]) QbU hs 0 rfl rfl rfl (Zz hs)
 ·exact oa [] fun D J w hs=>Qaf Qec rfl (Zz hs)
 ·exact oa [3] fun D J w hs=>QaQ (V:=.int .u16 l.cart) Qar hs 2 rfl rfl rfl (Zz hs)
 ·exact oa [2,4] fun D J w hs=>Qat (vs:=[.agg ((vc kn)++[(v1:Value),(.slice a2 ts.length c2:Value) ]).toArray,.int .u16 l.cart]) (V:=.tuple #[.int .i64 ((QbL ts l.cart:Nat):Int),.bool ((QaM ts l.cart).isSome)]) QrE rfl rfl (Qhz _ kn v1 a2 c2 ts l.cart (by omega) hT (hs.rd 1 rfl)) hs fun _ hs=>Zz hs
 ·exact oa [5] fun D J w hs=>Qac (V:=.tuple #[.int .i64 ((QbL ts l.cart:Nat):Int),.bool ((QaM ts l.cart).isSome)]) rfl (Zz hs)
 ·exact oa [6] fun D J w hs=>QaA (V:=.int .i64 ((QbL ts l.cart:Nat):Int)) rfl rfl (Zz hs)
 ·exact oa [6] fun D J w hs=>QaA (V:=.bool ((QaM ts l.cart).isSome)) rfl rfl (Zz hs)
 ·exact oa [7] fun D J w hs=>Qad (V:=.int .i64 ((QbL ts l.cart:Nat):Int)) rfl (Zz hs)
 ·exact oa [8] fun D J w hs=>Qad (V:=.bool ((QaM ts l.cart).isSome)) rfl (Zz hs)
 rintro J1 w4 J2 hJ hs
 replace hJ:J2=upd (upd (mix (sq 7 6++[6,13,14,4,5]) J1 _) 4 (I6 ((QbL ts l.cart:Nat):Int))) 5 (.bool ((QaM ts l.cart).isSome)):=hJ
 subst hJ
 refine Qag (Qag (Qab (Qaa (Qac (V:=.bool ((QaM ts l.cart).isSome)) rfl (Qaa (Qbz rfl (Qae (Qam (t:=!((QaM ts l.cart).isSome)) rfl (fun c5=>?_) (fun c5=>?_)))))))))
 ·
  replace c5:=Qby c5
  refine Qag ?_
  replace hs:=hs.more emp trivial
  refine QaH HM [some 17,some 18,some 19,some 20,some 21,some 22,some 23,some 24,some 25,some 26,some 27,none] [[],[],[],[],[],[],[],[24],[25]] [0,0,2,6,14,0,0,64,254,511,1023,2047] [pv (Pq b 0),pv (Pq b 0),pv (Pq b 0),pv (Pq b (0+17)),pv (.slice a2 ts.length c2),pv (I6 ((QbL ts l.cart:Nat):Int)),pv (.agg (lsc l).toArray),(true,fun J=>.slice (some ⟨(bOf (J 24)),0,none⟩) 1 1),(true,fun J=>.slice (aOf (J 25)) ((Qdu ts (QbL ts l.cart) l).length) (cOf (J 25))),pv (Pq b 0),pv (Pq b (0+17)),pn] (fun D J=>[cond (D 11) (blk b ((vc kn)++[(v1:Value),(.slice (aOf (J 25)) ((Qdu ts (QbL ts l.cart) l).length) (cOf (J 25)):Value) ]) 38) (blk b ((vc kn)++[(v1:Value),(.slice a2 ts.length c2:Value) ]) 38),cond (D 8) (row (.slice (aOf (J 25)) ((Qdu ts (QbL ts l.cart) l).length) (cOf (J 25))) ((Qdu ts (QbL ts l.cart) l).map lsc) 102 2) (row (.slice a2 ts.length c2) (ts.map lsc) 102 2),blk b1 (lsc l) 102,cond (D 7) (row (.slice (some ⟨(bOf (J 24)),0,none⟩) 1 1) ([l].map lsc) 102 2) (emp)]) [] (by kernel_rfl) hs ⟨?_,?_,?_,?_,?_,?_,?_,?_,?_,?_,?_,?_,trivial⟩ ?_
  ·exact oa [] fun D J w hs=>Qac (V:=.pointer (some ⟨b,0,none⟩)) rfl (Zz hs)
  ·exact oa [] fun D J w hs=>Qac (V:=.pointer (some ⟨b,0,none⟩)) rfl (Zz hs)
  ·exact oa [1] fun D J w hs=>QcJ rfl (Zz hs)
  ·exact oa [2] fun D J w hs=>Qaf QcI rfl (Zz hs)
  ·exact ob [3] [11] rfl rfl fun D J w hs=>QaQ (V:=.slice a2 ts.length c2) Qfi hs 0 rfl rfl rfl (Zz hs)
  ·exact oa [] fun D J w hs=>Qac (V:=.int .i64 ((QbL ts l.cart:Nat):Int)) rfl (Zz hs)
  ·exact oa [] fun D J w hs=>QaL (cs:=lsc l) QbP hs 2 rfl rfl rfl (Zz hs)
  ·exact oa [6] fun D J w hs=>QhQ (vals:=[.agg (lsc l).toArray]) (ls:=List.map lsc ([l]:List Lst)) Qgx rfl rfl rfl (Qbi (enc:=lsc) (fun _=>rfl) _) (QaV Qcf _) (QQ8 rfl) hs fun _ _ hs=>⟨rfl,hs.put 3 (QQ8 rfl)⟩
  ·exact ob [4,5,7] [11] rfl rfl fun D J w hs=>QnX (α:=Option Addr × Nat) (vs:=[.slice a2 ts.length c2,I6 ((QbL ts l.cart:Nat):Int),.slice (some ⟨(bOf (J 24)),0,none⟩) 1 1]) (V:=fun x=>.slice x.1 (Qdu ts (QbL ts l.cart) l).length x.2) (R:=row (.slice a2 ts.length c2) (ts.map lsc) 102 2) (R':=fun x=>row (.slice x.1 (Qdu ts (QbL ts l.cart) l).length x.2) ((Qdu ts (QbL ts l.cart) l).map lsc) 102 2) (Lo:=fun _=>[]) (F:=fun _ _=>True) Quj rfl rfl hs 1 3 (by decide) rfl rfl (QQ8 rfl) (fun S hS hlt hnS hpl9=>Qna _ S a2 c2 ts (QbL ts l.cart) hpl l (some ⟨(bOf (J 24)),0,none⟩) 1 (hs.rd 3 rfl) hpl9 hnS hpl9.lt (by omega) hS hlt) fun _ _ hs _=>⟨rfl,hs⟩
  ·exact oa [0] fun D J w hs=>QcJ rfl (Zz hs)
  ·exact oa [9] fun D J w hs=>Qaf QcI rfl (Zz hs)
  ·exact oa [8,10] fun D J w hs=>Qc0 (V:=.slice (aOf (J 25)) ((Qdu ts (QbL ts l.cart) l).length) (cOf (J 25))) (cs':=(vc kn)++[(v1:Value),(.slice (aOf (J 25)) ((Qdu ts (QbL ts l.cart) l).length) (cOf (J 25)):Value) ]) Qfi hs 0 rfl rfl rfl rfl (QQ8 rfl) rfl fun _ hs=>⟨trivial,hs⟩
  rintro J1 w9 J2 hJ hs
  replace hJ:J2=mix (sq 17 11) J1 _:=hJ
  replace hs:Own w S w9 [blk b ((vc kn)++[(v1:Value),(.slice (aOf (J1 25)) ((Qdu ts (QbL ts l.cart) l).length) (cOf (J1 25)):Value) ]) 38,row (.slice (aOf (J1 25)) ((Qdu ts (QbL ts l.cart) l).length) (cOf (J1 25))) ((Qdu ts (QbL ts l.cart) l).map lsc) 102 2,blk b1 (lsc l) 102,row (.slice (some ⟨(bOf (J1 24)),0,none⟩) 1 1) ([l].map lsc) 102 2]:=hs
  generalize (bOf (J1 24))=b10 at hs
  generalize (aOf (J1 25))=a11 at hs
  generalize (cOf (J1 25))=c12 at hs
  subst hJ
  refine Qaw ?_
  refine ⟨_,Qbf Tryz.results122,?_⟩
  have hX:Qdu ts (QbL ts l.cart) l=Qdv l.cart l.tick ts:=(Qol hT c5).symm
  have ho:=(hs.join 0 1 (by decide) rfl rfl).only 0 rfl
  rw [hX] at ho
  exact ⟨(a11,c12),rfl,ho,trivial⟩
 replace c5:=Qbu c5
 refine Qao ?_
 have hfa:=QhD hT c5
 have hfb:=hfa.1
 refine QaH HM [some 28,some 29,some 30,some 31,some 32,some 33,some 34,some 35,some 36,some 37,some 38,some 39,some 40,some 41,some 42,some 43,some 44,some 45,none] [] [0,1,3,7,0,0,32,96,224,0,992,2016,4064,0,8192,32736,65535,131071,262143] [pv (Pq b 0),pv (Pq b 0),pv (Pq b (0+17)),pv (.slice a2 ts.length c2),pv (I6 ((QbL ts l.cart:Nat):Int)),pv (Pq b 0),pv (Pq b 0),pv (Pq b (0+17)),pv (.slice a2 ts.length c2),pv (I6 ((QbL ts l.cart:Nat):Int)),pv (.pointer (some ⟨bkS (.slice a2 ts.length c2),ofS (.slice a2 ts.length c2)+((QbL ts l.cart:Nat):Int).toNat*2,none⟩)),pv (.pointer (some ⟨bkS (.slice a2 ts.length c2),ofS (.slice a2 ts.length c2)+((QbL ts l.cart:Nat):Int).toNat*2+1,none⟩)),pv (.int .u32 ((gd ts (QbL ts l.cart)).tick)),pv (Pq b1 (0+1)),pv (.int .u32 l.tick),pv (.int .u32 (max ((gd ts (QbL ts l.cart)).tick) l.tick)),pv (.pointer (some ⟨bkS (.slice a2 ts.length c2),ofS (.slice a2 ts.length c2)+((QbL ts l.cart:Nat):Int).toNat*2,none⟩)),pv (.pointer (some ⟨bkS (.slice a2 ts.length c2),ofS (.slice a2 ts.length c2)+((QbL ts l.cart:Nat):Int).toNat*2+1,none⟩)),pn] (fun D J=>[blk b ((vc kn)++[(v1:Value),(.slice a2 ts.length c2:Value) ]) 38,cond (D 18) (row (.slice a2 ts.length c2) ((ts.set (QbL ts l.cart) (⟨(gd ts (QbL ts l.cart)).cart,max ((gd ts (QbL ts l.cart)).tick) l.tick⟩:Lst)).map lsc) 102 2) (row (.slice a2 ts.length c2) (ts.map lsc) 102 2),blk b1 (lsc l) 102]) [] (by kernel_rfl) hs ⟨?_,?_,?_,?_,?_,?_,?_,?_,?_,?_,?_,?_,?_,?_,?_,?_,?_,?_,?_,trivial⟩ ?_
 ·exact oa [] fun D J w hs=>Qac (V:=.pointer (some ⟨b,0,none⟩)) rfl (Zz hs)
 ·exact oa [0] fun D J w hs=>QcJ rfl (Zz hs)
 ·exact oa [1] fun D J w hs=>Qaf QcI rfl (Zz hs)
 ·exact oa [2] fun D J w hs=>QaQ (V:=.slice a2 ts.length c2) Qfi hs 0 rfl rfl rfl (Zz hs)
 ·exact oa [] fun D J w hs=>Qac (V:=.int .i64 ((QbL ts l.cart:Nat):Int)) rfl (Zz hs)
 ·exact oa [] fun D J w hs=>Qac (V:=.pointer (some ⟨b,0,none⟩)) rfl (Zz hs)
 ·exact oa [5] fun D J w hs=>QcJ rfl (Zz hs)
 ·exact oa [6] fun D J w hs=>Qaf QcI rfl (Zz hs)
 ·exact oa [7] fun D J w hs=>QaQ (V:=.slice a2 ts.length c2) Qfi hs 0 rfl rfl rfl (Zz hs)
 ·exact oa [] fun D J w hs=>Qac (V:=.int .i64 ((QbL ts l.cart:Nat):Int)) rfl (Zz hs)
 ·exact ob [8,9] [18] rfl rfl fun D J w hs=>Qax Qem QbP.1 (hs.rd 1 rfl) rfl rfl (by omega) (by rw [QQ6];omega) (Zz hs)
 ·exact oa [10] fun D J w hs=>Qaf Qed rfl (Zz hs)
 ·exact ob [11] [18] rfl rfl fun D J w hs=>QaW (j:=1) (V:=.int .u32 ((gd ts (QbL ts l.cart)).tick)) (QbL ts l.cart) QaX (hs.rd 1 rfl) (Qba (by omega)) rfl rfl (by omega) (Zz hs)
 ·exact oa [] fun D J w hs=>Qaf Qed rfl (Zz hs)
 ·exact oa [13] fun D J w hs=>QaQ (V:=.int .u32 l.tick) QaX hs 2 rfl rfl rfl (Zz hs)
 ·exact oa [12,14] fun D J w hs=>Qo4 rfl rfl (Zz hs)
 ·exact ob [3,4] [18] rfl rfl fun D J w hs=>Qax Qem QbP.1 (hs.rd 1 rfl) rfl rfl (by omega) (by rw [QQ6];omega) (Zz hs)
 ·exact oa [16] fun D J w hs=>Qaf Qed rfl (Zz hs)
 ·exact oa [15,17] fun D J w hs=>Quq (z:=(⟨(gd ts (QbL ts l.cart)).cart,max ((gd ts (QbL ts l.cart)).tick) l.tick⟩:Lst)) (vs:=[.int .u32 (max ((gd ts (QbL ts l.cart)).tick) l.tick)]) (QbL ts l.cart) 1 QaX.1 hs 1 rfl rfl (by omega) (by first|omega|(simp only [List.length_set];omega)) rfl rfl rfl rfl (QQ8 rfl) (Qcf _) (Qau rfl Qa1) fun _ hs=>⟨trivial,hs⟩
 rintro J1 w14 J2 hJ hs
 replace hJ:J2=mix (sq 28 18) J1 _:=hJ
 replace hs:Own w S w14 [blk b ((vc kn)++[(v1:Value),(.slice a2 ts.length c2:Value) ]) 38,row (.slice a2 ts.length c2) ((ts.set (QbL ts l.cart) (⟨(gd ts (QbL ts l.cart)).cart,max ((gd ts (QbL ts l.cart)).tick) l.tick⟩:Lst)).map lsc) 102 2,blk b1 (lsc l) 102]:=hs
 subst hJ
 refine ⟨_,Qbf Tryz.results122,?_⟩
 have hX:ts.set (QbL ts l.cart) (⟨(gd ts (QbL ts l.cart)).cart,max ((gd ts (QbL ts l.cart)).tick) l.tick⟩:Lst)=Qdv l.cart l.tick ts:=by rw [Qpf hT c5];congr 1;rw [(QhD hT c5).2.1]
 have ho:=(hs.join 0 1 (by decide) rfl rfl).only 0 rfl
 have hl:ts.length=(Qdv l.cart l.tick ts).length:=by rw [← hX,List.length_set]
 rw [hX,hl] at ho
 exact ⟨(a2,c2),rfl,ho,trivial⟩
end Tt
end Go.Proofs
namespace Go.Proofs
open Go Go.Vx Go.RowKit
namespace Tt
theorem QrW (w:World) (s:Sta) (a1:Option Addr) (c1:Nat) (a2:Option Addr) (c2:Nat) (hok:Qdx s) (hle:s.ents.length<=1000) (hlt:s.ticks.length<=1000) (hr1:Rd w (.slice a1 s.ents.length c1) 7 (s.ents.map cec)) (hr2:Rd w (.slice a2 s.ticks.length c2) 2 (s.ticks.map lsc)):Calls Tryz.prog 116 #[.agg ((vc s.known)++[(.slice a1 s.ents.length c1:Value),(.slice a2 s.ticks.length c2:Value) ]).toArray] w (fun e w'=>∃ x:(Option Addr × Nat) × (Option Addr × Nat),e = .returned (.agg (vc (s).known++[(.slice x.1.1 (s).ents.length x.1.2:Value),(.slice x.2.1 (s).ticks.length x.2.2:Value)]).toArray)/\Own w no w' [row (.slice x.1.1 (s).ents.length x.1.2) ((s).ents.map cec) 106 7,row (.slice x.2.1 (s).ticks.length x.2.2) ((s).ticks.map lsc) 102 2]/\True):=by
 refine Qai (n:=12) Tryz.func116 rfl Tryz.ntmps116 rfl ?_
 have hs:=Own.start w
 refine Qag (Qab (Qaa (Qa4 (V:=.agg ((vc s.known)++[(.slice a1 s.ents.length c1:Value),(.slice a2 s.ticks.length c2:Value) ]).toArray) (cs:=(vc s.known)++[(.slice a1 s.ents.length c1:Value),(.slice a2 s.ticks.length c2:Value) ]) rfl rfl hs fun b1 w2 hs=>(Qaa (QaK (cs:=(vc vzero)++[(.slice none 0 0:Value),(.slice none 0 0:Value) ]) QfB rfl hs fun b3 w4 hs=>(Qae (Qag ?_)))))))
 replace hs:=hs.more emp trivial
 replace hs:=hs.more emp trivial
 refine QaH HM [some 3,some 4,some 5,some 6,some 7,some 8,some 9,some 10,some 11,none] [[],[],[],[],[7],[],[],[10],[7,10]] [0,1,0,4,12,0,32,124,255,511] [pv (Pq b1 (0+0)),pv (.agg (vc s.known).toArray),pv (Pq b1 (0+16)),pv (.slice a1 s.ents.length c1),(true,fun J=>.slice (aOf (J 7)) ((s.ents).length) (cOf (J 7))),pv (Pq b1 (0+17)),pv (.slice a2 s.ticks.length c2),(true,fun J=>.slice (aOf (J 10)) ((s.ticks).length) (cOf (J 10))),(true,fun J=>.agg ((vc s.known)++[(.slice (aOf (J 7)) ((s.ents).length) (cOf (J 7)):Value),(.slice (aOf (J 10)) ((s.ticks).length) (cOf (J 10)):Value) ]).toArray),pn] (fun D J=>[blk b1 ((vc s.known)++[(.slice a1 s.ents.length c1:Value),(.slice a2 s.ticks.length c2:Value) ]) 38,cond (D 9) (blk b3 ((vc s.known)++[(.slice (aOf (J 7)) ((s.ents).length) (cOf (J 7)):Value),(.slice (aOf (J 10)) ((s.ticks).length) (cOf (J 10)):Value) ]) 38) (blk b3 ((vc vzero)++[(.slice none 0 0:Value),(.slice none 0 0:Value) ]) 38),cond (D 4) (row (.slice (aOf (J 7)) ((s.ents).length) (cOf (J 7))) (s.ents.map cec) 106 7) (emp),cond (D 7) (row (.slice (aOf (J 10)) ((s.ticks).length) (cOf (J 10))) (s.ticks.map lsc) 102 2) (emp)]) [] (by kernel_rfl) hs ⟨?_,?_,?_,?_,?_,?_,?_,?_,?_,?_,trivial⟩ ?_
 ·exact oa [] fun D J w hs=>Qaf QeD rfl (Zz hs)
 ·exact oa [0] fun D J w hs=>QbY (vs:=vc s.known) Qbk hs 0 rfl rfl rfl rfl (Zz hs)
 ·exact oa [] fun D J w hs=>Qaf Qdb rfl (Zz hs)
 ·exact oa [2] fun D J w hs=>QaQ (V:=.slice a1 s.ents.length c1) Qgf hs 0 rfl rfl rfl (Zz hs)
 ·exact ob [3] [9] rfl rfl fun D J w hs=>Qbm (vs:=[.slice a1 s.ents.length c1]) (V:=fun x:Option Addr × Nat=>.slice x.1 (s.ents).length x.2) QtS rfl rfl (QiC _ a1 c1 s.ents (by omega) (Rd.own' hr1 hs)) hs fun _ _ hs _=>⟨rfl,hs.put 2 (QQ8 rfl)⟩
 ·exact oa [] fun D J w hs=>Qaf QcI rfl (Zz hs)
 ·exact oa [5] fun D J w hs=>QaQ (V:=.slice a2 s.ticks.length c2) Qfi hs 0 rfl rfl rfl (Zz hs)
 ·exact ob [6] [9] rfl rfl fun D J w hs=>Qbm (vs:=[.slice a2 s.ticks.length c2]) (V:=fun x:Option Addr × Nat=>.slice x.1 (s.ticks).length x.2) Qtw rfl rfl (QmG _ a2 c2 s.ticks (by omega) (Rd.own' hr2 hs)) hs fun _ _ hs _=>⟨rfl,hs.put 3 (QQ8 rfl)⟩
 ·exact oa [1,4,7] fun D J w hs=>QcC (vs:=[(0,.agg (vc s.known).toArray),(1,.slice (aOf (J 7)) ((s.ents).length) (cOf (J 7))),(2,.slice (aOf (J 10)) ((s.ticks).length) (cOf (J 10)))]) (cs:=(vc s.known)++[(.slice (aOf (J 7)) ((s.ents).length) (cOf (J 7)):Value),(.slice (aOf (J 10)) ((s.ticks).length) (cOf (J 10)):Value) ]) [vc vzero,[(.slice none 0 0:Value)],[(.slice none 0 0:Value)]] [vc s.known,[(.slice (aOf (J 7)) ((s.ents).length) (cOf (J 7)):Value)],[(.slice (aOf (J 10)) ((s.ticks).length) (cOf (J 10)):Value)]] Qmz rfl (rfl) rfl rfl (Zz hs)
 ·exact oa [8] fun D J w hs=>Qcx (V:=.agg ((vc s.known)++[(.slice (aOf (J 7)) ((s.ents).length) (cOf (J 7)):Value),(.slice (aOf (J 10)) ((s.ticks).length) (cOf (J 10)):Value) ]).toArray) (vs:=(vc s.known)++[(.slice (aOf (J 7)) ((s.ents).length) (cOf (J 7)):Value),(.slice (aOf (J 10)) ((s.ticks).length) (cOf (J 10)):Value) ]) (cs':=(vc s.known)++[(.slice (aOf (J 7)) ((s.ents).length) (cOf (J 7)):Value),(.slice (aOf (J 10)) ((s.ticks).length) (cOf (J 10)):Value) ]) QbU.1 hs 1 rfl rfl rfl rfl rfl (QQ8 rfl) (Qbl (QbO _) (Qau rfl (Qau rfl Qa1))) (Qaz rfl) fun _ hs=>⟨trivial,hs⟩
 rintro J1 w8 J2 hJ hs
 replace hJ:J2=mix (sq 3 9) J1 _:=hJ
 replace hs:Own w no w8 [blk b1 ((vc s.known)++[(.slice a1 s.ents.length c1:Value),(.slice a2 s.ticks.length c2:Value) ]) 38,blk b3 ((vc s.known)++[(.slice (aOf (J1 7)) ((s.ents).length) (cOf (J1 7)):Value),(.slice (aOf (J1 10)) ((s.ticks).length) (cOf (J1 10)):Value) ]) 38,row (.slice (aOf (J1 7)) ((s.ents).length) (cOf (J1 7))) (s.ents.map cec) 106 7,row (.slice (aOf (J1 10)) ((s.ticks).length) (cOf (J1 10))) (s.ticks.map lsc) 102 2]:=hs
 generalize (aOf (J1 7))=a9 at hs
 generalize (cOf (J1 7))=c10 at hs
 generalize (aOf (J1 10))=a11 at hs
 generalize (cOf (J1 10))=c12 at hs
 subst hJ
 refine Qaw ?_
 refine ⟨_,QdH (cs:=(vc s.known)++[(.slice a9 ((s.ents).length) c10:Value),(.slice a11 ((s.ticks).length) c12:Value) ]) Tryz.results116 QbU hs 1 rfl rfl rfl,?_⟩
 exact ⟨((a9,c10),(a11,c12)),rfl,hs.two 2 3 (by decide) rfl rfl,trivial⟩
theorem QrS (w:World) (x:Cen):Calls Tryz.prog 118 #[.agg (cec x).toArray] w (fun e w'=>e = .returned (.agg (oc (QaG x)).toArray)/\Own w no w' []):=by
 refine Qai (n:=14) Tryz.func118 rfl Tryz.ntmps118 rfl ?_
 have hs:=Own.start w
 refine Qag (Qab (Qaa (Qa4 (V:=.agg (cec x).toArray) (cs:=cec x) rfl rfl hs fun b1 w2 hs=>(Qaa (QaK (cs:=oc (⟨(⟨0,0⟩:Dot),0,0,0,0,0,vzero⟩:Opn)) QiM rfl hs fun b3 w4 hs=>(Qae (Qag (Qab (Qaa (Qaf QbN rfl (Qaa (QbY (vs:=dc x.dot) QcL hs 0 rfl rfl rfl rfl (Qaa (Qaf Qef rfl (Qaa (QaQ (V:=.int .u8 x.kind) Qdw hs 0 rfl rfl rfl (Qaa (Qaf Qde rfl (Qaa (QaQ (V:=I7 x.cart) Qar hs 0 rfl rfl rfl (Qaa (Qaf Qdg rfl (Qaa (QaQ (V:=I7 x.item) Qar hs 0 rfl rfl rfl (Qaa (Qaf Qeg rfl (Qaa (QaQ (V:=I7 x.qty) Qar hs 0 rfl rfl rfl (Qaa (QcC (vs:=[(0,.agg (dc x.dot).toArray),(1,.int .u8 x.kind),(2,I7 x.cart),(3,I7 x.item),(4,I7 x.qty)]) (cs:=oc (⟨x.dot,x.kind,x.cart,x.item,x.qty,0,vzero⟩:Opn)) [dc (⟨0,0⟩:Dot),[(.int .u8 0:Value)],[(I7 0:Value)],[(I7 0:Value)],[(I7 0:Value)],[(.int .u32 0:Value)],vc vzero] [dc x.dot,[(.int .u8 x.kind:Value)],[(I7 x.cart:Value)],[(I7 x.item:Value)],[(I7 x.qty:Value)],[(.int .u32 0:Value)],vc vzero] QrJ rfl (rfl) rfl rfl (Qaa (Qcx (V:=.agg (oc (⟨x.dot,x.kind,x.cart,x.item,x.qty,0,vzero⟩:Opn)).toArray) (vs:=oc (⟨x.dot,x.kind,x.cart,x.item,x.qty,0,vzero⟩:Opn)) (cs':=oc (⟨x.dot,x.kind,x.cart,x.item,x.qty,0,vzero⟩:Opn)) QbB.1 hs 1 rfl rfl rfl rfl rfl (QQ8 rfl) (Qc7 _) (Qaz rfl) fun w5 hs=>(Qae (Qaw ?_))))))))))))))))))))))))))))))))))
 refine ⟨_,QdH (cs:=oc (⟨x.dot,x.kind,x.cart,x.item,x.qty,0,vzero⟩:Opn)) Tryz.results118 QbB hs 1 rfl rfl rfl,(Zr hs ?_)⟩
 rfl
theorem Ql4 (w:World) (x:Cen) (o:Opn) (bx:Nat) (hx:Qc9 x.dot) (hc:Qb8 w bx (oc o)):Calls Tryz.prog 117 #[.agg (cec x).toArray,.pointer (some ⟨bx,0,none⟩)] w (fun e w'=>e = .returned (.bool (QaE o (QaG x)))/\Own w no w' []):=by
 refine Qai (n:=8) Tryz.func117 rfl Tryz.ntmps117 rfl ?_
 have hs:=Own.start w
 refine Qag (Qab (Qaa (Qa4 (V:=.agg (cec x).toArray) (cs:=cec x) rfl rfl hs fun b1 w2 hs=>(Qaa (Qad (V:=.bool false) rfl (Qae (Qag (QaH HM [some 4,some 5,some 6,some 7,some 3] [] [0,0,2,7,15] [pv (.agg (oc o).toArray),pv (.agg (cec x).toArray),pv (.agg (oc (QaG x)).toArray),pv (.bool (QaE o (QaG x))),pv (.bool (QaE o (QaG x)))] (fun _ _=>_) [4] (by kernel_rfl) hs ⟨?_,?_,?_,?_,?_,trivial⟩ ?_))))))))
 ·exact oa [] fun D J w hs=>Qmg (vs:=oc o) QbB (hc.own' hs) rfl rfl rfl (Zz hs)
 ·exact oa [] fun D J w hs=>QaL (cs:=cec x) QaB hs 0 rfl rfl rfl (Zz hs)
 ·exact oa [1] fun D J w hs=>Qat (vs:=[.agg (cec x).toArray]) (V:=.agg (oc (QaG x)).toArray) Qts rfl rfl (QrS _ x) hs fun _ hs=>Zz hs
 ·exact oa [0,2] fun D J w hs=>Qat (vs:=[.agg (oc o).toArray,.agg (oc (QaG x)).toArray]) (V:=.bool (QaE o (QaG x))) Qt6 rfl rfl (QjT _ o (QaG x) hx) hs fun _ hs=>Zz hs
 ·exact oa [3] fun D J w hs=>Qad (V:=.bool (QaE o (QaG x))) rfl (Zz hs)
 rintro J1 w5 J2 hJ hs
 replace hJ:J2=upd (mix [4,5,6,7,3] J1 _) 3 (.bool (QaE o (QaG x))):=hJ
 subst hJ
 refine Qaw ?_
 refine ⟨_,Qaq (V:=.bool (QaE o (QaG x))) Tryz.results117 rfl,(Zr hs ?_)⟩
 rfl
end Tt
end Go.Proofs
namespace Go.Proofs
open Go Go.Vx Go.RowKit
namespace Tt
theorem QlU (w:World) (S:Nat->Prop) (a:Option Addr) (c:Nat) (l:List Cen) (i:Nat) (hi:i<=l.length) (x:Cen) (b:Option Addr) (c2:Nat) (hv:Rd w (.slice b 1 c2) 7 (List.map cec [x])) (hpl:Qd4 w (.slice b 1 c2)) (hnS:¬S (bkS (.slice b 1 c2))) (hvb:bkS (.slice b 1 c2)<w.heap.size) (hN:(l.length+1)*25<=140737488355328) (hR:(row (.slice a l.length c) (l.map cec) 106 7).holds w S) (hlt:∀ b,S b->b<w.heap.size):Calls Tryz.prog 121 #[.slice a l.length c,.int .i64 (i:Int),.slice b 1 c2] w (fun e w'=>∃ x':Option Addr × Nat,e = .returned (.slice x'.1 (Qdu l i x).length x'.2)/\Own w S w' [row (.slice x'.1 (Qdu l i x).length x'.2) ((Qdu l i x).map cec) 106 7]/\True):=by
 refine Qai (n:=95) Tryz.func121 rfl Tryz.ntmps121 rfl ?_
 have hs:=Own.lent hR hlt
 have hn:=(hs.rd 0 rfl).sml
 have hlc:=(hs.rd 0 rfl).roomM
 have hvo:∀ (w1:World) (L1:List Res),Own w S w1 L1->Rd w1 (.slice b 1 c2) 7 (List.map cec [x]):=fun w1 L1 h=>hv.own h hnS
 refine Qag (Qab (Qaa (Qad (V:=.slice none 0 0) rfl (Qae (Qag (Qab (Qaa (Qac (V:=.slice a l.length c) rfl (Qaa (Qac (V:=I6 (i:Int)) rfl (Qaa (QkQ (l:=i) (h:=l.length) (m:=c) (n':=(l.drop i).length) QcW QaB.1 (hs.rd 0 rfl) rfl (.inr ⟨_,_,rfl,rfl⟩) (.inl ⟨rfl,rfl⟩) (.inl ⟨rfl,rfl⟩) (by omega) (by omega) (Nat.le_trans (show l.length<=l.length by omega) (Rd.roomM (hs.rd 0 rfl))) (Nat.le_refl _) (by simp only [List.length_take,List.length_drop]<;>omega) ?_))))))))))))
 refine Qae (Qag (Qab (Qaa (Qac (V:=.slice b 1 c2) rfl (Qaa (QaU (V:=I6 (1:Int)) (V':=I6 1) (Qa3 (n:=1) QbC (hvo _ _ hs) (by simp) rfl ⟨rfl,rfl⟩) rfl (Qaa (Qad (V:=I6 1) rfl (Qae (Qag (Qag (Qab (Qaa (Qac (V:=I6 1) rfl (Qaa (QaU (V:=.bool (decide ((1:Int)=0))) (V':=.bool false) (QaZ rfl rfl ⟨rfl,rfl⟩) (congrArg Value.bool (by decide)) (Qae (QbV rfl ?_))))))))))))))))))
 refine Qao (Qag (Qab (Qaa (Qac (V:=.slice a l.length c) rfl (Qaa (Qa3 (n:=l.length) QbC (hs.rd 0 rfl) (by simp) rfl (Qaa (Qad (V:=I6 ((l.length:Nat):Int)) rfl (Qae (Qag (Qag (Qab (Qaa (Qac (V:=I6 (i:Int)) rfl (Qaa (Qac (V:=I6 ((l.length:Nat):Int)) rfl (Qaa (QaZ rfl rfl (Qae (Qam (t:=decide ((i:Int)=((l.length:Nat):Int))) rfl (fun c1=>?_) (fun c1=>?_)))))))))))))))))))))
 ·
  replace c1:=QQ1 c1
  refine Qag (Qab (Qaa (Qac (V:=.slice a l.length c) rfl (Qaa (Qac (V:=.slice b 1 c2) rfl (Qaa (Qdi (ls':=(l++[x]).map cec) (n:=(l++[x]).length) QeL hs 0 rfl rfl rfl (hvo _ _ hs) (QaV Qbj _) (by simp only [QQ6,QQ7,List.length_cons,List.length_nil];omega) (by simp) (by simp) fun a2 c2 w3 hs=>(Qaa (Qad (V:=.slice a2 ((l++[x]).length) c2) rfl (Qae (Qaw ?_)))))))))))
  refine ⟨_,Qaq (V:=.slice a2 ((l++[x]).length) c2) Tryz.results121 rfl,?_⟩
  have hX:l++[x]=Qdu l i x:=QjV (by omega)
  rw [hX] at hs
  exact ⟨(a2,c2),by rw [← hX],hs.only 0 rfl,trivial⟩
 replace c1:=QQ2 c1
 refine Qao (Qag (Qag (Qab (Qaa (Qac (V:=I6 ((l.length:Nat):Int)) rfl (Qaa (Qac (V:=I6 1) rfl (Qaa (QaF (a:=((l.length:Nat):Int)) (b:=1) (c:=((l.length+1:Nat):Int)) rfl rfl (Qak (by omega) (by omega)) (Qaa (Qac (V:=.slice a l.length c) rfl (Qaa (Qp4 QbC rfl (Qaa (Qb2 rfl rfl (Qae (Qam (t:=decide ((c:Int)<((l.length+1:Nat):Int))) rfl (fun c4=>?_) (fun c4=>?_))))))))))))))))))
 ·
  replace c4:=QQ1 c4
  refine Qag (Qab (Qaa (Qac (V:=.slice a l.length c) rfl (Qaa (Qac (V:=I6 (i:Int)) rfl (Qaa (QdU (l:=0) (h:=i) (n':=i) QcW QaB.1 (by omega) rfl (.inl ⟨rfl,rfl⟩) (.inr ⟨_,_,rfl,rfl⟩) (by omega) (by omega) (by omega) (Qaa (Qac (V:=I6 ((l.length:Nat):Int)) rfl (Qaa (Qac (V:=I6 1) rfl (Qaa (QaF (a:=((l.length:Nat):Int)) (b:=1) (c:=((l.length+1:Nat):Int)) rfl rfl (Qak (by omega) (by omega)) (Qaa (Qac (V:=I6 (i:Int)) rfl (Qaa (Qa5 (a:=((l.length+1:Nat):Int)) (b:=(i:Int)) (c:=(((l.length+1)-i:Nat):Int)) rfl rfl (Qak (by omega) (by omega)) (Qaa (QqA (zl:=cec (⟨0,0,0,0,(⟨0,0⟩:Dot),0⟩:Cen)) (ls':=(l.take i++List.replicate ((l.length+1)-i) (⟨0,0,0,0,(⟨0,0⟩:Dot),0⟩:Cen)).map cec) QeL QtG (.inl Qfz) hs (hs.rd 0 rfl) rfl rfl (by rw [QQ6];omega) (by rw [QQ6];omega) (by omega) (by omega) (QaV Qbj _) (Qbj _) rfl (by omega) (by simp only [List.map_append,List.map_take,List.map_replicate]) (l.take i++List.replicate ((l.length+1)-i) (⟨0,0,0,0,(⟨0,0⟩:Dot),0⟩:Cen)).length (by rw [QQ6]) fun a5 c5 w6 hs=>(Qaa (Qad (V:=.slice a5 ((l.take i++List.replicate ((l.length+1)-i) (⟨0,0,0,0,(⟨0,0⟩:Dot),0⟩:Cen)).length) c5) rfl (Qae (Qag ?_)))))))))))))))))))))))
  have hq9:(l.take i++List.replicate ((l.length+1)-i) (⟨0,0,0,0,(⟨0,0⟩:Dot),0⟩:Cen)).length=l.length+1:=by simp only [QQ7,List.length_take,List.length_replicate];omega
  have hr9:=(hs.rd 1 rfl).roomM
  refine Qab (Qaa (Qac (V:=.slice a5 ((l.take i++List.replicate ((l.length+1)-i) (⟨0,0,0,0,(⟨0,0⟩:Dot),0⟩:Cen)).length) c5) rfl (Qaa (Qac (V:=I6 (i:Int)) rfl (Qaa (QdU (l:=i) (h:=(l.take i++List.replicate ((l.length+1)-i) (⟨0,0,0,0,(⟨0,0⟩:Dot),0⟩:Cen)).length) (n':=((l.take i++List.replicate ((l.length+1)-i) (⟨0,0,0,0,(⟨0,0⟩:Dot),0⟩:Cen)).length)-i) QcW QaB.1 (by omega) rfl (.inr ⟨_,_,rfl,rfl⟩) (.inl ⟨rfl,rfl⟩) (by omega) (by omega) (by omega) (Qaa (Qac (V:=.slice b 1 c2) rfl (Qaa (Qdk (lo:=i) (ms:=[x].map cec) (ls':=((l.take i++List.replicate ((l.length+1)-i) (⟨0,0,0,0,(⟨0,0⟩:Dot),0⟩:Cen)).take i++[x]++(l.take i++List.replicate ((l.length+1)-i) (⟨0,0,0,0,(⟨0,0⟩:Dot),0⟩:Cen)).drop (i+[x].length)).map cec) (n':=((l.take i++List.replicate ((l.length+1)-i) (⟨0,0,0,0,(⟨0,0⟩:Dot),0⟩:Cen)).take i++[x]++(l.take i++List.replicate ((l.length+1)-i) (⟨0,0,0,0,(⟨0,0⟩:Dot),0⟩:Cen)).drop (i+[x].length)).length) QeL hs 1 rfl rfl rfl (by simp only [QQ6,List.length_drop,List.length_take,List.length_cons,List.length_nil,QQ7,List.length_replicate];omega) (Rd.srcs (hvo _ _ hs)) (Qbi (enc:=cec) (fun _=>rfl) _) (QaV Qbj _) (by simp only [QQ6,List.length_drop,List.length_take,List.length_cons,List.length_nil,QQ7,List.length_replicate];omega) (by simp only [QQ6,List.length_drop,List.length_take,List.length_cons,List.length_nil,QQ7,List.length_replicate];omega) (by simp only [List.map_append,List.map_take,List.map_drop,List.map_cons,List.map_nil,QQ6,List.length_drop,List.length_take,List.length_cons,List.length_nil]) (by rw [QQ6]) fun w7 hs=>(Qae (Qag (QaH HM [some 46,some 47,some 48,some 49,some 50,some 51,some 52,some 53,some 54] [] [0,0,0,6,15,0,0,96,255] [pv (.slice a5 ((l.take i++List.replicate ((l.length+1)-i) (⟨0,0,0,0,(⟨0,0⟩:Dot),0⟩:Cen)).length) c5),pv (I6 (i:Int)),pv (I6 1),pv (I6 ((i+1:Nat):Int)),pv (.slice (sla a5 (i+1) c5 7) (((l.take i++List.replicate ((l.length+1)-i) (⟨0,0,0,0,(⟨0,0⟩:Dot),0⟩:Cen)).length)-(i+1)) (c5-(i+1))),pv (.slice a l.length c),pv (I6 (i:Int)),pv (.slice (sla a i c 7) ((l.drop i).length) (c-i)),pv (I6 (((List.map cec (l.drop i)).length:Nat):Int))] (fun D J=>[row (.slice a l.length c) (l.map cec) 106 7,cond (D 8) (row (.slice a5 ((((l.take i++List.replicate ((l.length+1)-i) (⟨0,0,0,0,(⟨0,0⟩:Dot),0⟩:Cen)).take i++[x]++(l.take i++List.replicate ((l.length+1)-i) (⟨0,0,0,0,(⟨0,0⟩:Dot),0⟩:Cen)).drop (i+[x].length)).take (i+1)++l.drop i++((l.take i++List.replicate ((l.length+1)-i) (⟨0,0,0,0,(⟨0,0⟩:Dot),0⟩:Cen)).take i++[x]++(l.take i++List.replicate ((l.length+1)-i) (⟨0,0,0,0,(⟨0,0⟩:Dot),0⟩:Cen)).drop (i+[x].length)).drop (i+1+(l.drop i).length)).length) c5) ((((l.take i++List.replicate ((l.length+1)-i) (⟨0,0,0,0,(⟨0,0⟩:Dot),0⟩:Cen)).take i++[x]++(l.take i++List.replicate ((l.length+1)-i) (⟨0,0,0,0,(⟨0,0⟩:Dot),0⟩:Cen)).drop (i+[x].length)).take (i+1)++l.drop i++((l.take i++List.replicate ((l.length+1)-i) (⟨0,0,0,0,(⟨0,0⟩:Dot),0⟩:Cen)).take i++[x]++(l.take i++List.replicate ((l.length+1)-i) (⟨0,0,0,0,(⟨0,0⟩:Dot),0⟩:Cen)).drop (i+[x].length)).drop (i+1+(l.drop i).length)).map cec) 106 7) (row (.slice a5 (((l.take i++List.replicate ((l.length+1)-i) (⟨0,0,0,0,(⟨0,0⟩:Dot),0⟩:Cen)).take i++[x]++(l.take i++List.replicate ((l.length+1)-i) (⟨0,0,0,0,(⟨0,0⟩:Dot),0⟩:Cen)).drop (i+[x].length)).length) c5) (((l.take i++List.replicate ((l.length+1)-i) (⟨0,0,0,0,(⟨0,0⟩:Dot),0⟩:Cen)).take i++[x]++(l.take i++List.replicate ((l.length+1)-i) (⟨0,0,0,0,(⟨0,0⟩:Dot),0⟩:Cen)).drop (i+[x].length)).map cec) 106 7)]) [] (by kernel_rfl) hs ⟨?_,?_,?_,?_,?_,?_,?_,?_,?_,trivial⟩ ?_)))))))))))))
  ·exact oa [] fun D J w hs=>Qac (V:=.slice a5 ((l.take i++List.replicate ((l.length+1)-i) (⟨0,0,0,0,(⟨0,0⟩:Dot),0⟩:Cen)).length) c5) rfl (Zz hs)
  ·exact oa [] fun D J w hs=>Qac (V:=.int .i64 (i:Int)) rfl (Zz hs)
  ·exact oa [] fun D J w hs=>Qac (V:=.int .i64 1) rfl (Zz hs)
  ·exact oa [1,2] fun D J w hs=>QaF (a:=(i:Int)) (b:=1) (c:=((i+1:Nat):Int)) rfl rfl (Qak (by omega) (by omega)) (Zz hs)
  ·exact oa [0,3] fun D J w hs=>QdU (l:=i+1) (h:=(l.take i++List.replicate ((l.length+1)-i) (⟨0,0,0,0,(⟨0,0⟩:Dot),0⟩:Cen)).length) (n':=((l.take i++List.replicate ((l.length+1)-i) (⟨0,0,0,0,(⟨0,0⟩:Dot),0⟩:Cen)).length)-(i+1)) QcW QaB.1 (by omega) rfl (.inr ⟨_,_,rfl,rfl⟩) (.inl ⟨rfl,rfl⟩) (by omega) (by omega) (by omega) (Zz hs)
  ·exact oa [] fun D J w hs=>Qac (V:=.slice a l.length c) rfl (Zz hs)
  ·exact oa [] fun D J w hs=>Qac (V:=.int .i64 (i:Int)) rfl (Zz hs)
  ·exact oa [5,6] fun D J w hs=>QkQ (l:=i) (h:=l.length) (m:=c) (n':=(l.drop i).length) QcW QaB.1 (hs.rd 0 rfl) rfl (.inr ⟨_,_,rfl,rfl⟩) (.inl ⟨rfl,rfl⟩) (.inl ⟨rfl,rfl⟩) (by omega) (by omega) (Nat.le_trans (show l.length<=l.length by omega) (Rd.roomM (hs.rd 0 rfl))) (Nat.le_refl _) (by simp only [List.length_take,List.length_drop]<;>omega) (Zz hs)
  ·exact oa [4,7] fun D J w hs=>Qdk (lo:=i+1) (ms:=(l.drop i).map cec) (ls':=(((l.take i++List.replicate ((l.length+1)-i) (⟨0,0,0,0,(⟨0,0⟩:Dot),0⟩:Cen)).take i++[x]++(l.take i++List.replicate ((l.length+1)-i) (⟨0,0,0,0,(⟨0,0⟩:Dot),0⟩:Cen)).drop (i+[x].length)).take (i+1)++l.drop i++((l.take i++List.replicate ((l.length+1)-i) (⟨0,0,0,0,(⟨0,0⟩:Dot),0⟩:Cen)).take i++[x]++(l.take i++List.replicate ((l.length+1)-i) (⟨0,0,0,0,(⟨0,0⟩:Dot),0⟩:Cen)).drop (i+[x].length)).drop (i+1+(l.drop i).length)).map cec) (n':=(((l.take i++List.replicate ((l.length+1)-i) (⟨0,0,0,0,(⟨0,0⟩:Dot),0⟩:Cen)).take i++[x]++(l.take i++List.replicate ((l.length+1)-i) (⟨0,0,0,0,(⟨0,0⟩:Dot),0⟩:Cen)).drop (i+[x].length)).take (i+1)++l.drop i++((l.take i++List.replicate ((l.length+1)-i) (⟨0,0,0,0,(⟨0,0⟩:Dot),0⟩:Cen)).take i++[x]++(l.take i++List.replicate ((l.length+1)-i) (⟨0,0,0,0,(⟨0,0⟩:Dot),0⟩:Cen)).drop (i+[x].length)).drop (i+1+(l.drop i).length)).length) QeL hs 1 rfl rfl rfl (by simp only [QQ6,List.length_drop,List.length_take,List.length_cons,List.length_nil,QQ7,List.length_replicate];omega) (Rd.srcs (Rd.dropM (hs.rd 0 rfl) i hi _ rfl)) (Qbi (enc:=cec) (fun _=>rfl) _) (QaV Qbj _) (by simp only [QQ6,List.length_drop,List.length_take,List.length_cons,List.length_nil,QQ7,List.length_replicate];omega) (by simp only [QQ6,List.length_drop,List.length_take,List.length_cons,List.length_nil,QQ7,List.length_replicate];omega) (by simp only [List.map_append,List.map_take,List.map_drop,List.map_cons,List.map_nil,QQ6,List.length_drop,List.length_take,List.length_cons,List.length_nil]) (by rw [QQ6]) fun _ hs=>⟨rfl,hs⟩
  rintro J1 w9 J2 hJ hs
  replace hJ:J2=mix (sq 46 9) J1 _:=hJ
  replace hs:Own w S w9 [row (.slice a l.length c) (l.map cec) 106 7,row (.slice a5 ((((l.take i++List.replicate ((l.length+1)-i) (⟨0,0,0,0,(⟨0,0⟩:Dot),0⟩:Cen)).take i++[x]++(l.take i++List.replicate ((l.length+1)-i) (⟨0,0,0,0,(⟨0,0⟩:Dot),0⟩:Cen)).drop (i+[x].length)).take (i+1)++l.drop i++((l.take i++List.replicate ((l.length+1)-i) (⟨0,0,0,0,(⟨0,0⟩:Dot),0⟩:Cen)).take i++[x]++(l.take i++List.replicate ((l.length+1)-i) (⟨0,0,0,0,(⟨0,0⟩:Dot),0⟩:Cen)).drop (i+[x].length)).drop (i+1+(l.drop i).length)).length) c5) ((((l.take i++List.replicate ((l.length+1)-i) (⟨0,0,0,0,(⟨0,0⟩:Dot),0⟩:Cen)).take i++[x]++(l.take i++List.replicate ((l.length+1)-i) (⟨0,0,0,0,(⟨0,0⟩:Dot),0⟩:Cen)).drop (i+[x].length)).take (i+1)++l.drop i++((l.take i++List.replicate ((l.length+1)-i) (⟨0,0,0,0,(⟨0,0⟩:Dot),0⟩:Cen)).take i++[x]++(l.take i++List.replicate ((l.length+1)-i) (⟨0,0,0,0,(⟨0,0⟩:Dot),0⟩:Cen)).drop (i+[x].length)).drop (i+1+(l.drop i).length)).map cec) 106 7]:=hs
  subst hJ
  refine Qag (Qab (Qaa (Qac (V:=.slice a5 ((l.take i++List.replicate ((l.length+1)-i) (⟨0,0,0,0,(⟨0,0⟩:Dot),0⟩:Cen)).length) c5) rfl (Qaa (Qad (V:=.slice a5 ((l.take i++List.replicate ((l.length+1)-i) (⟨0,0,0,0,(⟨0,0⟩:Dot),0⟩:Cen)).length) c5) rfl (Qae (Qaw ?_)))))))
  refine ⟨_,Qaq (V:=.slice a5 ((l.take i++List.replicate ((l.length+1)-i) (⟨0,0,0,0,(⟨0,0⟩:Dot),0⟩:Cen)).length) c5) Tryz.results121 rfl,?_⟩
  have hX:((l.take i++List.replicate ((l.length+1)-i) (⟨0,0,0,0,(⟨0,0⟩:Dot),0⟩:Cen)).take i++[x]++(l.take i++List.replicate ((l.length+1)-i) (⟨0,0,0,0,(⟨0,0⟩:Dot),0⟩:Cen)).drop (i+[x].length)).take (i+1)++l.drop i++((l.take i++List.replicate ((l.length+1)-i) (⟨0,0,0,0,(⟨0,0⟩:Dot),0⟩:Cen)).take i++[x]++(l.take i++List.replicate ((l.length+1)-i) (⟨0,0,0,0,(⟨0,0⟩:Dot),0⟩:Cen)).drop (i+[x].length)).drop (i+1+(l.drop i).length)=Qdu l i x:=Qko hi
  rw [hX] at hs
  exact ⟨(a5,c5),by rw [hq9,QfR hi],hs.only 1 rfl,trivial⟩
 replace c4:=QQ2 c4
 refine Qao (Qag (Qab (Qaa (Qac (V:=.slice a l.length c) rfl (Qaa (Qac (V:=I6 ((l.length:Nat):Int)) rfl (Qaa (Qac (V:=I6 1) rfl (Qaa (QaF (a:=((l.length:Nat):Int)) (b:=1) (c:=((l.length+1:Nat):Int)) rfl rfl (Qak (by omega) (by omega)) (Qaa (QaU (V:=.slice (sla a 0 c 7) (l.length+1) (c-0)) (V':=.slice a (l.length+1) c) (QdU (l:=0) (h:=l.length+1) (n':=l.length+1) QcW QaB.1 (by omega) rfl (.inl ⟨rfl,rfl⟩) (.inr ⟨_,_,rfl,rfl⟩) (by omega) (by omega) (by omega) ⟨rfl,rfl⟩) (by rw [Qe1];rfl) (Qaa (Qad (V:=.slice a (l.length+1) c) rfl (Qae (Qag (Qag (Qab (Qaa (Qac (V:=.slice b 1 c2) rfl (Qaa (Qac (V:=.slice a (l.length+1) c) rfl (Qaa (Qac (V:=I6 (i:Int)) rfl (Qaa (Qac (V:=I6 1) rfl (Qaa (QaF (a:=(i:Int)) (b:=1) (c:=((i+1:Nat):Int)) rfl rfl (Qak (by omega) (by omega)) (Qaa (QdU (l:=i+1) (h:=l.length+1) (n':=(l.length+1)-(i+1)) QcW QaB.1 (by omega) rfl (.inr ⟨_,_,rfl,rfl⟩) (.inl ⟨rfl,rfl⟩) (by omega) (by omega) (by omega) (Qaa (Qne (f:=154) (tR:=4) (lo:=i+1) Tryz.func154 (by kernel_rfl) (by kernel_rfl) (by kernel_rfl) (by kernel_rfl) QcW QaB.1 rfl hs 0 rfl (by rw [QQ6];omega) (by decide) rfl (hpl.own hs hnS) hnS hvb (by omega) rfl (Qaa (Qbz rfl (Qae (QcN rfl ?_))))))))))))))))))))))))))))))))))))
 refine Qag (QaH HM [some 69,some 70,some 71,some 72,some 73,some 74,some 75,some 76,some 77] [] [0,0,0,6,15,0,0,96,255] [pv (.slice a (l.length+1) c),pv (I6 (i:Int)),pv (I6 1),pv (I6 ((i+1:Nat):Int)),pv (.slice (sla a (i+1) c 7) ((l.length+1)-(i+1)) (c-(i+1))),pv (.slice a (l.length+1) c),pv (I6 (i:Int)),pv (.slice (sla a i c 7) ((l.length+1)-i) (c-i)),pv (I6 (((List.map cec (l.drop i)).length:Nat):Int))] (fun D J=>[cond (D 8) (row (.slice a ((l.take (i+1)++l.drop i++l.drop (i+1+(l.drop i).length)).length) c) ((l.take (i+1)++l.drop i++l.drop (i+1+(l.drop i).length)).map cec) 106 7) (row (.slice a l.length c) (l.map cec) 106 7)]) [] (by kernel_rfl) hs ⟨?_,?_,?_,?_,?_,?_,?_,?_,?_,trivial⟩ ?_)
 ·exact oa [] fun D J w hs=>Qac (V:=.slice a (l.length+1) c) rfl (Zz hs)
 ·exact oa [] fun D J w hs=>Qac (V:=.int .i64 (i:Int)) rfl (Zz hs)
 ·exact oa [] fun D J w hs=>Qac (V:=.int .i64 1) rfl (Zz hs)
 ·exact oa [1,2] fun D J w hs=>QaF (a:=(i:Int)) (b:=1) (c:=((i+1:Nat):Int)) rfl rfl (Qak (by omega) (by omega)) (Zz hs)
 ·exact oa [0,3] fun D J w hs=>QdU (l:=i+1) (h:=l.length+1) (n':=(l.length+1)-(i+1)) QcW QaB.1 (by omega) rfl (.inr ⟨_,_,rfl,rfl⟩) (.inl ⟨rfl,rfl⟩) (by omega) (by omega) (by omega) (Zz hs)
 ·exact oa [] fun D J w hs=>Qac (V:=.slice a (l.length+1) c) rfl (Zz hs)
 ·exact oa [] fun D J w hs=>Qac (V:=.int .i64 (i:Int)) rfl (Zz hs)
 ·exact oa [5,6] fun D J w hs=>QdU (l:=i) (h:=l.length+1) (n':=(l.length+1)-i) QcW QaB.1 (by omega) rfl (.inr ⟨_,_,rfl,rfl⟩) (.inl ⟨rfl,rfl⟩) (by omega) (by omega) (by omega) (Zz hs)
 ·exact oa [4,7] fun D J w hs=>Qdk (lo:=i+1) (ms:=(l.drop i).map cec) (ls':=(l.take (i+1)++l.drop i++l.drop (i+1+(l.drop i).length)).map cec) (n':=(l.take (i+1)++l.drop i++l.drop (i+1+(l.drop i).length)).length) QeL hs 0 rfl rfl rfl (by simp only [QQ6,List.length_drop,List.length_take,List.length_cons,List.length_nil,QQ7,List.length_replicate];omega) (Rd.srcs (Rd.dropM (hs.rd 0 rfl) i hi _ rfl)) (Qbi (enc:=cec) (fun _=>rfl) _) (QaV Qbj _) (by simp only [QQ6,List.length_drop,List.length_take,List.length_cons,List.length_nil,QQ7,List.length_replicate];omega) (by simp only [QQ6,List.length_drop,List.length_take,List.length_cons,List.length_nil,QQ7,List.length_replicate];omega) (by simp only [List.map_append,List.map_take,List.map_drop,List.map_cons,List.map_nil,QQ6,List.length_drop,List.length_take,List.length_cons,List.length_nil]) (by rw [QQ6]) fun _ hs=>⟨rfl,hs⟩
 rintro J1 w11 J2 hJ hs
 replace hJ:J2=mix (sq 69 9) J1 _:=hJ
 replace hs:Own w S w11 [row (.slice a ((l.take (i+1)++l.drop i++l.drop (i+1+(l.drop i).length)).length) c) ((l.take (i+1)++l.drop i++l.drop (i+1+(l.drop i).length)).map cec) 106 7]:=hs
 subst hJ
 refine Qag (Qab (Qaa (Qac (V:=.slice a (l.length+1) c) rfl (Qaa (Qac (V:=I6 (i:Int)) rfl (Qaa (QdU (l:=i) (h:=l.length+1) (n':=(l.length+1)-i) QcW QaB.1 (by omega) rfl (.inr ⟨_,_,rfl,rfl⟩) (.inl ⟨rfl,rfl⟩) (by omega) (by omega) (by omega) (Qaa (Qac (V:=.slice b 1 c2) rfl (Qaa (Qdk (lo:=i) (ms:=[x].map cec) (ls':=((l.take (i+1)++l.drop i++l.drop (i+1+(l.drop i).length)).take i++[x]++(l.take (i+1)++l.drop i++l.drop (i+1+(l.drop i).length)).drop (i+[x].length)).map cec) (n':=((l.take (i+1)++l.drop i++l.drop (i+1+(l.drop i).length)).take i++[x]++(l.take (i+1)++l.drop i++l.drop (i+1+(l.drop i).length)).drop (i+[x].length)).length) QeL hs 0 rfl rfl rfl (by simp only [QQ6,List.length_drop,List.length_take,List.length_cons,List.length_nil,QQ7,List.length_replicate];omega) (Rd.srcs (hvo _ _ hs)) (Qbi (enc:=cec) (fun _=>rfl) _) (QaV Qbj _) (by simp only [QQ6,List.length_drop,List.length_take,List.length_cons,List.length_nil,QQ7,List.length_replicate];omega) (by simp only [QQ6,List.length_drop,List.length_take,List.length_cons,List.length_nil,QQ7,List.length_replicate];omega) (by simp only [List.map_append,List.map_take,List.map_drop,List.map_cons,List.map_nil,QQ6,List.length_drop,List.length_take,List.length_cons,List.length_nil]) (by rw [QQ6]) fun w12 hs=>(Qae (Qag (Qab (Qaa (Qac (V:=.slice a (l.length+1) c) rfl (Qaa (Qad (V:=.slice a (l.length+1) c) rfl (Qae (Qaw ?_))))))))))))))))))))
 refine ⟨_,Qaq (V:=.slice a (l.length+1) c) Tryz.results121 rfl,?_⟩
 have hX:(l.take (i+1)++l.drop i++l.drop (i+1+(l.drop i).length)).take i++[x]++(l.take (i+1)++l.drop i++l.drop (i+1+(l.drop i).length)).drop (i+[x].length)=Qdu l i x:=QkI (by omega)
 rw [hX] at hs
 exact ⟨(a,c),by rw [QfR hi],hs.only 0 rfl,trivial⟩
end Tt
end Go.Proofs
