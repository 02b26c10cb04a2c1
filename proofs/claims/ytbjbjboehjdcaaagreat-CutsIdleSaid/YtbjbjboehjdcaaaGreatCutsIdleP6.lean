/- A part of a proof: what functions of the program compute, and plain facts on that. -/
import Derived.Test.YtbjbjboehjdcaaaGreatCutsIdleP5
set_option linter.unusedVariables false
set_option linter.unusedSimpArgs false
set_option maxHeartbeats 4000000
set_option maxRecDepth 100000
namespace Go.Proofs
open Go Go.Vx Go.RowKit
namespace Tt
theorem QlD (w:World) (S:Nat->Prop) (b:Nat) (L:List Dif) (va:Int) (la:List Line) (ao:Bool) (at_:Int) (aa:Option Addr) (ca:Nat) (vb:Int) (lb:List Line) (bo:Bool) (bt:Int) (ab:Option Addr) (cb:Nat) (hra:Qfv la) (hrb:Qfv lb) (hna:la.length<=100000) (hnb:lb.length<=100000) (hva:∀ (w1:World) (L1:List Res),Own w S w1 L1->Rd w1 (.slice aa la.length ca) 2 (la.map lc)) (hvb:∀ (w1:World) (L1:List Res),Own w S w1 L1->Rd w1 (.slice ab lb.length cb) 2 (lb.map lc)) (hR:(Qeg 60 83 b L).holds w S) (hlS:∀ x,S x->x<w.heap.size) (hL:L.length<=10000000):Calls Tryz.prog 64 #[.agg #[.int .u16 va,.slice aa la.length ca,.bool ao,.int .u32 at_],.agg #[.int .u16 vb,.slice ab lb.length cb,.bool bo,.int .u32 bt],.func (.func 65) #[] #[.pointer (some ⟨b,0,none⟩)]] w (fun e w'=>∃ x_:Unit,e = .returned (.tuple #[])/\Own w S w' [Qeg 60 83 b (L++Qej (⟨va,la,ao,at_⟩:Vw) (⟨vb,lb,bo,bt⟩:Vw))]/\True):=by
 refine Qai (n:=126) Tryz.func64 rfl Tryz.ntmps64 rfl ?_
 have hs:=Own.lent hR hlS
 refine Qag (Qab (Qaa (Qa4 (V:=.agg #[I7 va,.slice aa la.length ca,.bool ao,.int .u32 at_]) (cs:=[I7 va,.slice aa la.length ca,.bool ao,.int .u32 at_]) rfl rfl hs fun b1 w2 hs=>(Qaa (Qa4 (V:=.agg #[I7 vb,.slice ab lb.length cb,.bool bo,.int .u32 bt]) (cs:=[I7 vb,.slice ab lb.length cb,.bool bo,.int .u32 bt]) rfl rfl hs fun b3 w4 hs=>(Qae (Qag (QaH HM [some 9,some 10,some 11,some 12,some 6,some 7] [] [0,1,0,4,3,31] [pv (Pq b1 (0+1)),pv (.slice aa la.length ca),pv (Pq b3 (0+1)),pv (.slice ab lb.length cb),pv (.slice aa la.length ca),pv (.slice ab lb.length cb)] (fun _ _=>_) [5,4] (by kernel_rfl) hs ⟨?_,?_,?_,?_,?_,?_,trivial⟩ ?_))))))))
 ·exact oa [] fun D J w hs=>Qaf Qeo rfl (Zz hs)
 ·exact oa [0] fun D J w hs=>QaP (V:=.slice aa la.length ca) Qi9 hs 1 rfl rfl rfl (Zz hs)
 ·exact oa [] fun D J w hs=>Qaf Qeo rfl (Zz hs)
 ·exact oa [2] fun D J w hs=>QaP (V:=.slice ab lb.length cb) Qi9 hs 2 rfl rfl rfl (Zz hs)
 ·exact oa [1] fun D J w hs=>Qad (V:=.slice aa la.length ca) rfl (Zz hs)
 ·exact oa [3] fun D J w hs=>Qad (V:=.slice ab lb.length cb) rfl (Zz hs)
 rintro J1 w5 J2 hJ hs
 replace hJ:J2=upd (upd (mix [9,10,11,12,6,7] J1 _) 6 (.slice aa la.length ca)) 7 (.slice ab lb.length cb):=hJ
 subst hJ
 refine Qag (Qan (QaC (fun J μ J' w'=>∃ (Jo:Env) (R1:List Line) (R2:List Line) (I:List Int) (out:List Dif) (a6:Option Addr) (cb6:Nat) (a7:Option Addr) (cb7:Nat),J'=upd (upd (mix ([6,7,8]++sq 13 97) Jo J) 6 (.slice a6 R1.length cb6)) 7 (.slice a7 R2.length cb7)/\(DifI la lb R1 R2 I)/\(out=L++I.flatMap (Qi8 vb la lb))/\(∀ (w1:World) (L1:List Res),Own w S w1 L1->Rd w1 (.slice a6 R1.length cb6) 2 (R1.map lc))/\(∀ (w1:World) (L1:List Res),Own w S w1 L1->Rd w1 (.slice a7 R2.length cb7) 2 (R2.map lc))/\(R1.length<=la.length/\R2.length<=lb.length)/\(out.length+(R1.length+R2.length)<=L.length+(la.length+lb.length))/\μ=R1.length+R2.length/\Own w S w' [Qeg 60 83 b out,blk b1 [I7 va,.slice aa la.length ca,.bool ao,.int .u32 at_] 49,blk b3 [I7 vb,.slice ab lb.length cb,.bool bo,.int .u32 bt] 49]) ?_ ?_))
 ·exact ⟨_,_,la,lb,[],L,aa,ca,ab,cb,Qak (Qak (Qao (ds:=([6,7,8]++sq 13 97)) (Agr.refl _ _)) rfl) rfl,(Qkp _ _),(by simp),hva,hvb,(by omega),(by omega),rfl,hs⟩
 rintro μ J' w6 ⟨Jo,R1,R2,I,out,a6,cb6,a7,cb7,rfl,hdi,hout,hv6,hv7,hll,hol,rfl,hs⟩
 have hrr:=QnK hra hrb hdi
 have hmm:=QoF hdi
 refine Qag (Qag (Qbq [some 13,some 14,some 15,some 16,some 17,some 18,some 19,some 20] [] [0,1,3,7,15,31,63,127] [pv (.slice a6 R1.length cb6),pv (I6 ((R1.length:Nat):Int)),pv (.bool (decide (0<((R1.length:Nat):Int)))),pv (.bool (decide (0<((R1.length:Nat):Int)))),pg ((decide (0<((R1.length:Nat):Int))) == false) (.slice a7 R2.length cb7),pg ((decide (0<((R1.length:Nat):Int))) == false) (I6 ((R2.length:Nat):Int)),pg ((decide (0<((R1.length:Nat):Int))) == false) (.bool (decide (0<((R2.length:Nat):Int)))),pv (.bool ((decide (0<((R1.length:Nat):Int)))||(decide (0<((R2.length:Nat):Int)))))] (fun _ _=>_) [7] (by kernel_rfl) hs ⟨?_,?_,?_,?_,?_,?_,?_,?_,trivial⟩ ?_))
 ·exact oa [] fun D J w hs=>Qac (V:=.slice a6 R1.length cb6) rfl (Zz hs)
 ·exact oa [0] fun D J w hs=>Qa0 (n:=R1.length) Qdx (hv6 _ _ hs) (by simp) rfl (Zz hs)
 ·exact oa [1] fun D J w hs=>QbU rfl rfl (Zz hs)
 ·exact oa [2] fun D J w hs=>Qac (V:=.bool (decide (0<((R1.length:Nat):Int)))) rfl (Zz hs)
 ·exact og [3] fun D J w hG hs=>Qac (V:=.slice a7 R2.length cb7) rfl (Zz hs)
 ·exact oy [3,4] [4] fun D J w hG hs=>Qa0 (n:=R2.length) Qdx (hv7 _ _ hs) (by simp) rfl (Zz hs)
 ·exact oy [3,5] [5] fun D J w hG hs=>QbU rfl rfl (Zz hs)
 ·exact oa [3,6] fun D J w hs=>Qb2 (h':=decide (0<((R2.length:Nat):Int))) rfl rfl rfl (Zz hs)
 rintro J1 w7 J2 hJ hs
 replace hJ:J2=upd (mix (sq 13 8) J1 _) 20 (.bool ((decide (0<((R1.length:Nat):Int)))||(decide (0<((R2.length:Nat):Int))))):=hJ
 subst hJ
 refine Qam (t:=(decide (0<((R1.length:Nat):Int)))||(decide (0<((R2.length:Nat):Int)))) rfl (fun c8=>?_) (fun c8=>?_)
 ·
  refine Qap (Qan (Qag (Qab (Qaa (Qaf Ql8 rfl (Qaa (QaP (V:=I7 vb) Qar hs 2 rfl rfl rfl (Qaa (QbI (vs:=[(0,I7 vb)]) (cs:=dfc (⟨vb,0,false,0,0⟩:Dif)) Qrf (rfl) rfl (Qaa (QaL (cs:=dfc (⟨0,0,false,0,0⟩:Dif)) Qu9 rfl hs fun b9 w10 hs=>(Qaa (QcG (V:=.agg (dfc (⟨vb,0,false,0,0⟩:Dif)).toArray) (vs:=dfc (⟨vb,0,false,0,0⟩:Dif)) (cs':=dfc (⟨vb,0,false,0,0⟩:Dif)) QiU.1 hs 3 rfl rfl rfl rfl rfl (QQ8 rfl) (Qjd _) (Qaz rfl) fun w11 hs=>?_)))))))))))))
  replace hs:Own w S w11 [Qeg 60 83 b out,blk b1 [I7 va,.slice aa la.length ca,.bool ao,.int .u32 at_] 49,blk b3 [I7 vb,.slice ab lb.length cb,.bool bo,.int .u32 bt] 49,blk b9 (dfc (⟨vb,0,false,0,0⟩:Dif)) 83]:=hs
  refine Qae (Qag (Qan (Qag (QaH HM [some 44,some 45,some 46,some 47,some 48,some 49,some 50,some 51,some 52,some 53,some 54,some 55,some 56,some 57,some 58,some 59,some 60,some 61,some 62,some 43] [] [0,1,3,7,15,31,63,127,255,511,1023,2047,255,4351,12543,28927,65535,131071,262143,524287] [pv (.slice a7 R2.length cb7),pv (I6 ((R2.length:Nat):Int)),pv (.bool (decide (((R2.length:Nat):Int)=0))),pv (.bool (decide (((R2.length:Nat):Int)=0))),pg ((decide (((R2.length:Nat):Int)=0)) == false) (.slice a6 R1.length cb6),pg ((decide (((R2.length:Nat):Int)=0)) == false) (I6 ((R1.length:Nat):Int)),pg ((decide (((R2.length:Nat):Int)=0)) == false) (.bool (decide (0<((R1.length:Nat):Int)))),pg ((decide (((R2.length:Nat):Int)=0)) == false) (.bool (decide (0<((R1.length:Nat):Int)))),pg (((decide (((R2.length:Nat):Int)=0)) == false)&&((decide (0<((R1.length:Nat):Int))) == true)) (.slice a6 R1.length cb6),pg (((decide (((R2.length:Nat):Int)=0)) == false)&&((decide (0<((R1.length:Nat):Int))) == true)) (.pointer (some ⟨bkS (.slice a6 R1.length cb6),ofS (.slice a6 R1.length cb6)+(0:Int).toNat*2,none⟩)),pg (((decide (((R2.length:Nat):Int)=0)) == false)&&((decide (0<((R1.length:Nat):Int))) == true)) (.pointer (some ⟨bkS (.slice a6 R1.length cb6),ofS (.slice a6 R1.length cb6)+(0:Int).toNat*2+0,none⟩)),pg (((decide (((R2.length:Nat):Int)=0)) == false)&&((decide (0<((R1.length:Nat):Int))) == true)) (I7 ((gd R1 0).item)),pg (((decide (((R2.length:Nat):Int)=0)) == false)&&((decide (0<((R1.length:Nat):Int))) == true)) (.slice a7 R2.length cb7),pg (((decide (((R2.length:Nat):Int)=0)) == false)&&((decide (0<((R1.length:Nat):Int))) == true)) (.pointer (some ⟨bkS (.slice a7 R2.length cb7),ofS (.slice a7 R2.length cb7)+(0:Int).toNat*2,none⟩)),pg (((decide (((R2.length:Nat):Int)=0)) == false)&&((decide (0<((R1.length:Nat):Int))) == true)) (.pointer (some ⟨bkS (.slice a7 R2.length cb7),ofS (.slice a7 R2.length cb7)+(0:Int).toNat*2+0,none⟩)),pg (((decide (((R2.length:Nat):Int)=0)) == false)&&((decide (0<((R1.length:Nat):Int))) == true)) (I7 ((gd R2 0).item)),pg (((decide (((R2.length:Nat):Int)=0)) == false)&&((decide (0<((R1.length:Nat):Int))) == true)) (.bool (decide ((gd R1 0).item<(gd R2 0).item))),pg ((decide (((R2.length:Nat):Int)=0)) == false) (.bool ((decide (0<((R1.length:Nat):Int)))&&(decide ((gd R1 0).item<(gd R2 0).item)))),pv (.bool ((decide (((R2.length:Nat):Int)=0))||((decide (0<((R1.length:Nat):Int)))&&(decide ((gd R1 0).item<(gd R2 0).item))))),pv (.bool ((decide (((R2.length:Nat):Int)=0))||((decide (0<((R1.length:Nat):Int)))&&(decide ((gd R1 0).item<(gd R2 0).item)))))] (fun _ _=>_) [19] (by kernel_rfl) hs ⟨?_,?_,?_,?_,?_,?_,?_,?_,?_,?_,?_,?_,?_,?_,?_,?_,?_,?_,?_,?_,trivial⟩ ?_))))
  ·exact oa [] fun D J w hs=>Qac (V:=.slice a7 R2.length cb7) rfl (Zz hs)
  ·exact oa [0] fun D J w hs=>Qa0 (n:=R2.length) Qdx (hv7 _ _ hs) (by simp) rfl (Zz hs)
  ·exact oa [1] fun D J w hs=>QaW rfl rfl (Zz hs)
  ·exact oa [2] fun D J w hs=>Qac (V:=.bool (decide (((R2.length:Nat):Int)=0))) rfl (Zz hs)
  ·exact og [3] fun D J w hG hs=>Qac (V:=.slice a6 R1.length cb6) rfl (Zz hs)
  ·exact oy [3,4] [4] fun D J w hG hs=>Qa0 (n:=R1.length) Qdx (hv6 _ _ hs) (by simp) rfl (Zz hs)
  ·exact oy [3,5] [5] fun D J w hG hs=>QbU rfl rfl (Zz hs)
  ·exact oy [3,6] [6] fun D J w hG hs=>Qac (V:=.bool (decide (0<((R1.length:Nat):Int)))) rfl (Zz hs)
  ·exact og [7] fun D J w hG hs=>Qac (V:=.slice a6 R1.length cb6) rfl (Zz hs)
  ·refine oy [7,8] [8] fun D J w hG hs=>?_
   have hgd0:=QQ2 (eq_of_beq (QbY (hG)))
   have hgd1:=QQ1 (eq_of_beq (Qcs (hG)))
   exact Qaw Qdx QcL.1 (hv6 _ _ hs) rfl rfl (by decide) (by rw [QQ6];omega) (Zz hs)
  ·exact oy [7,9] [9] fun D J w hG hs=>Qaf Qdz rfl (Zz hs)
  ·refine oy [7,10] [10] fun D J w hG hs=>?_
   have hgd0:=QQ2 (eq_of_beq (QbY (hG)))
   have hgd1:=QQ1 (eq_of_beq (Qcs (hG)))
   exact QaU (j:=0) (V:=.int .u16 ((gd R1 0).item)) 0 Qar (hv6 _ _ hs) (Qa9 (by omega)) rfl rfl (by omega) (Zz hs)
  ·exact og [7] fun D J w hG hs=>Qac (V:=.slice a7 R2.length cb7) rfl (Zz hs)
  ·refine oy [7,12] [12] fun D J w hG hs=>?_
   have hgd0:=QQ2 (eq_of_beq (QbY (hG)))
   have hgd1:=QQ1 (eq_of_beq (Qcs (hG)))
   exact Qaw Qdx QcL.1 (hv7 _ _ hs) rfl rfl (by decide) (by rw [QQ6];omega) (Zz hs)
  ·exact oy [7,13] [13] fun D J w hG hs=>Qaf Qdz rfl (Zz hs)
  ·refine oy [7,14] [14] fun D J w hG hs=>?_
   have hgd0:=QQ2 (eq_of_beq (QbY (hG)))
   have hgd1:=QQ1 (eq_of_beq (Qcs (hG)))
   exact QaU (j:=0) (V:=.int .u16 ((gd R2 0).item)) 0 Qar (hv7 _ _ hs) (Qa9 (by omega)) rfl rfl (by omega) (Zz hs)
  ·exact oy [7,11,15] [11,15] fun D J w hG hs=>Qa2 rfl rfl (Zz hs)
  ·exact oy [3,7,16] [7] fun D J w hG hs=>Qj2 (h':=decide ((gd R1 0).item<(gd R2 0).item)) (G:=((decide (((R2.length:Nat):Int)=0)) == false)) hG rfl rfl rfl (Zz hs)
  ·exact oa [3,17] fun D J w hs=>Qb2 (h':=(decide (0<((R1.length:Nat):Int)))&&(decide ((gd R1 0).item<(gd R2 0).item))) rfl rfl rfl (Zz hs)
  ·exact oa [18] fun D J w hs=>Qad (V:=.bool ((decide (((R2.length:Nat):Int)=0))||((decide (0<((R1.length:Nat):Int)))&&(decide ((gd R1 0).item<(gd R2 0).item))))) rfl (Zz hs)
  rintro J1 w12 J2 hJ hs
  replace hJ:J2=upd (mix (sq 44 19++[43]) J1 _) 43 (.bool ((decide (((R2.length:Nat):Int)=0))||((decide (0<((R1.length:Nat):Int)))&&(decide ((gd R1 0).item<(gd R2 0).item))))):=hJ
  subst hJ
  refine Qam (t:=(decide (((R2.length:Nat):Int)=0))||((decide (0<((R1.length:Nat):Int)))&&(decide ((gd R1 0).item<(gd R2 0).item)))) rfl (fun c13=>?_) (fun c13=>?_)
  ·
   refine Qag ?_
   have ⟨hn9,hz9⟩:=QuP c8 c13
   refine QaH HM [some 63,some 64,some 65,some 66,some 67,some 68,some 69,some 70,some 71,none,some 72,none] [] [0,1,3,7,0,16,48,112,15,271,1023,2047] [pv (.slice a6 R1.length cb6),pv (.pointer (some ⟨bkS (.slice a6 R1.length cb6),ofS (.slice a6 R1.length cb6)+(0:Int).toNat*2,none⟩)),pv (.pointer (some ⟨bkS (.slice a6 R1.length cb6),ofS (.slice a6 R1.length cb6)+(0:Int).toNat*2+0,none⟩)),pv (I7 ((gd R1 0).item)),pv (.slice a6 R1.length cb6),pv (.pointer (some ⟨bkS (.slice a6 R1.length cb6),ofS (.slice a6 R1.length cb6)+(0:Int).toNat*2,none⟩)),pv (.pointer (some ⟨bkS (.slice a6 R1.length cb6),ofS (.slice a6 R1.length cb6)+(0:Int).toNat*2+1,none⟩)),pv (.int .u32 ((gd R1 0).qty)),pv (Pq b9 (0+1)),pn,pv (Pq b9 (0+3)),pn] (fun D J=>[Qeg 60 83 b out,blk b1 [I7 va,.slice aa la.length ca,.bool ao,.int .u32 at_] 49,blk b3 [I7 vb,.slice ab lb.length cb,.bool bo,.int .u32 bt] 49,cond (D 11) (blk b9 (dfc (⟨vb,(gd R1 0).item,false,(gd R1 0).qty,0⟩:Dif)) 83) (cond (D 9) (blk b9 (dfc (⟨vb,(gd R1 0).item,false,0,0⟩:Dif)) 83) (blk b9 (dfc (⟨vb,0,false,0,0⟩:Dif)) 83))]) [] (by kernel_rfl) hs ⟨?_,?_,?_,?_,?_,?_,?_,?_,?_,?_,?_,?_,trivial⟩ ?_
   ·exact oa [] fun D J w hs=>Qac (V:=.slice a6 R1.length cb6) rfl (Zz hs)
   ·exact oa [0] fun D J w hs=>Qaw Qdx QcL.1 (hv6 _ _ hs) rfl rfl (by decide) (by rw [QQ6];omega) (Zz hs)
   ·exact oa [1] fun D J w hs=>Qaf Qdz rfl (Zz hs)
   ·exact oa [2] fun D J w hs=>QaU (j:=0) (V:=.int .u16 ((gd R1 0).item)) 0 Qar (hv6 _ _ hs) (Qa9 (by omega)) rfl rfl (by omega) (Zz hs)
   ·exact oa [] fun D J w hs=>Qac (V:=.slice a6 R1.length cb6) rfl (Zz hs)
   ·exact oa [4] fun D J w hs=>Qaw Qdx QcL.1 (hv6 _ _ hs) rfl rfl (by decide) (by rw [QQ6];omega) (Zz hs)
   ·exact oa [5] fun D J w hs=>Qaf Qfx rfl (Zz hs)
   ·exact oa [6] fun D J w hs=>QaU (j:=1) (V:=.int .u32 ((gd R1 0).qty)) 0 QaN (hv6 _ _ hs) (Qa9 (by omega)) rfl rfl (by omega) (Zz hs)
   ·exact oa [] fun D J w hs=>Qaf QiL rfl (Zz hs)
   ·exact ob [3,8] [11] rfl rfl fun D J w hs=>QcQ (V:=I7 ((gd R1 0).item)) (cs':=dfc (⟨vb,(gd R1 0).item,false,0,0⟩:Dif)) Qar hs 3 rfl rfl rfl rfl (QQ8 rfl) rfl fun _ hs=>⟨trivial,hs⟩
   ·exact oa [] fun D J w hs=>Qaf Qgn rfl (Zz hs)
   ·exact oa [7,9,10] fun D J w hs=>QcQ (V:=.int .u32 ((gd R1 0).qty)) (cs':=dfc (⟨vb,(gd R1 0).item,false,(gd R1 0).qty,0⟩:Dif)) QaN hs 3 rfl rfl rfl rfl (QQ8 rfl) rfl fun _ hs=>⟨trivial,hs⟩
   rintro J1 w16 J2 hJ hs
   replace hJ:J2=mix (sq 63 10) J1 _:=hJ
   replace hs:Own w S w16 [Qeg 60 83 b out,blk b1 [I7 va,.slice aa la.length ca,.bool ao,.int .u32 at_] 49,blk b3 [I7 vb,.slice ab lb.length cb,.bool bo,.int .u32 bt] 49,blk b9 (dfc (⟨vb,(gd R1 0).item,false,(gd R1 0).qty,0⟩:Dif)) 83]:=hs
   subst hJ
   refine Qab (Qaa (Qac (V:=.slice a6 R1.length cb6) rfl (Qaa (Qk2 (l:=1) (h:=R1.length) (m:=cb6) (n':=(R1.drop 1).length) Qkc QcL.1 (hv6 _ _ hs) rfl (.inr ⟨_,_,rfl,rfl⟩) (.inl ⟨rfl,rfl⟩) (.inl ⟨rfl,rfl⟩) (by omega) (by omega) (Nat.le_trans (show R1.length<=R1.length by omega) (Rd.roomM (hv6 _ _ hs))) (Nat.le_refl _) (by simp only [List.length_take,List.length_drop]<;>omega) ?_))))
   refine Qaa (Qad (V:=.slice (sla a6 1 cb6 2) ((R1.drop 1).length) (cb6-1)) rfl (Qae (Qag (Qab (Qaa (Qaf Qgn rfl (Qaa (QaP (V:=.int .u32 ((gd R1 0).qty)) QaN hs 3 rfl rfl rfl (Qaa (Qaf QfS rfl (Qaa (QaP (V:=.int .u32 0) QaN hs 3 rfl rfl rfl (Qaa (QcC rfl rfl (Qae (Qam (t:=!decide ((gd R1 0).qty=0)) rfl (fun c17=>?_) (fun c17=>?_)))))))))))))))))
   ·
    replace c17:=Qby c17
    replace c17:=QQ2 c17
    refine Qab (Qaa (Qac (V:=.func (.func 65) #[] #[Pq b 0]) rfl (Qaa (QaO (cs:=dfc (⟨vb,(gd R1 0).item,false,(gd R1 0).qty,0⟩:Dif)) QiU hs 3 rfl rfl rfl (Qaa (Qpi (α:=Unit) (vs:=[.agg (dfc (⟨vb,(gd R1 0).item,false,(gd R1 0).qty,0⟩:Dif)).toArray]) (cs:=[Pq b 0]) (V:=fun _=>.tuple #[]) (R:=Qeg 60 83 b out) (R':=fun _=>Qeg 60 83 b (out++[(⟨vb,(gd R1 0).item,false,(gd R1 0).qty,0⟩:Dif)])) (Lo:=fun _=>[]) (F:=fun _ _=>True) QnH rfl rfl hs 0 rfl (fun S hS hlS=>QfD _ S b out (⟨vb,(gd R1 0).item,false,(gd R1 0).qty,0⟩:Dif) hS hlS (by omega)) fun _ w18 hs _=>(Qae ?_)))))))
    have hd9:=Qlx hra hrb hdi (by omega) (QfB hrr.2 hz9)
    refine ⟨_,?_,_,R1.drop 1,R2,I++[(gd R1 0).item],(out++[(⟨vb,(gd R1 0).item,false,(gd R1 0).qty,0⟩:Dif)]),(sla a6 1 cb6 2),cb6-1,a7,cb7,Qak (Qak (Qao (ds:=([6,7,8]++sq 13 97)) (by repeat (first|exact Agr.refl _ _|refine Agr.upd ?_ rfl|refine Agr.mix ?_ rfl))) rfl) rfl,hd9.1,(Qho hout hd9.2.1 hd9.2.2 c17),(fun w1 L1 h=>Rd.dropM (hv6 w1 L1 h) 1 (by omega) _ (by rw [List.length_drop])),hv7,(by simp only [List.length_drop];omega),(by simp only [QQ7,List.length_singleton,List.length_drop];omega),rfl,hs.take 3⟩
    (simp only [List.length_drop];omega)
   replace c17:=Qbr c17
   replace c17:=QQ1 c17
   refine Qap ?_
   have hd9:=Qlx hra hrb hdi (by omega) (QfB hrr.2 hz9)
   refine ⟨_,?_,_,R1.drop 1,R2,I++[(gd R1 0).item],out,(sla a6 1 cb6 2),cb6-1,a7,cb7,Qak (Qak (Qao (ds:=([6,7,8]++sq 13 97)) (by repeat (first|exact Agr.refl _ _|refine Agr.upd ?_ rfl|refine Agr.mix ?_ rfl))) rfl) rfl,hd9.1,(Qm0 hout hd9.2.1 hd9.2.2 c17),(fun w1 L1 h=>Rd.dropM (hv6 w1 L1 h) 1 (by omega) _ (by rw [List.length_drop])),hv7,(by simp only [List.length_drop];omega),(by simp only [List.length_drop];omega),rfl,hs.take 3⟩
   (simp only [List.length_drop];omega)
  have c13r:=QfW c13
  replace c13:=QfV c13
  replace c13:=QQ2 c13
  refine Qag ?_
  have hn9:0<R2.length:=by omega
  refine QaH HM [some 76,some 77,some 78,some 79,some 80,some 81,some 82,some 83,some 84,some 85,some 86,some 87,some 88,some 89,some 75] [] [0,1,3,7,15,31,63,127,15,271,783,1807,4095,8191,16383] [pv (.slice a6 R1.length cb6),pv (I6 ((R1.length:Nat):Int)),pv (.bool (decide (((R1.length:Nat):Int)=0))),pv (.bool (decide (((R1.length:Nat):Int)=0))),pg ((decide (((R1.length:Nat):Int)=0)) == false) (.slice a7 R2.length cb7),pg ((decide (((R1.length:Nat):Int)=0)) == false) (.pointer (some ⟨bkS (.slice a7 R2.length cb7),ofS (.slice a7 R2.length cb7)+(0:Int).toNat*2,none⟩)),pg ((decide (((R1.length:Nat):Int)=0)) == false) (.pointer (some ⟨bkS (.slice a7 R2.length cb7),ofS (.slice a7 R2.length cb7)+(0:Int).toNat*2+0,none⟩)),pg ((decide (((R1.length:Nat):Int)=0)) == false) (I7 ((gd R2 0).item)),pg ((decide (((R1.length:Nat):Int)=0)) == false) (.slice a6 R1.length cb6),pg ((decide (((R1.length:Nat):Int)=0)) == false) (.pointer (some ⟨bkS (.slice a6 R1.length cb6),ofS (.slice a6 R1.length cb6)+(0:Int).toNat*2,none⟩)),pg ((decide (((R1.length:Nat):Int)=0)) == false) (.pointer (some ⟨bkS (.slice a6 R1.length cb6),ofS (.slice a6 R1.length cb6)+(0:Int).toNat*2+0,none⟩)),pg ((decide (((R1.length:Nat):Int)=0)) == false) (I7 ((gd R1 0).item)),pg ((decide (((R1.length:Nat):Int)=0)) == false) (.bool (decide ((gd R2 0).item<(gd R1 0).item))),pv (.bool ((decide (((R1.length:Nat):Int)=0))||(decide ((gd R2 0).item<(gd R1 0).item)))),pv (.bool ((decide (((R1.length:Nat):Int)=0))||(decide ((gd R2 0).item<(gd R1 0).item))))] (fun _ _=>_) [14] (by kernel_rfl) hs ⟨?_,?_,?_,?_,?_,?_,?_,?_,?_,?_,?_,?_,?_,?_,?_,trivial⟩ ?_
  ·exact oa [] fun D J w hs=>Qac (V:=.slice a6 R1.length cb6) rfl (Zz hs)
  ·exact oa [0] fun D J w hs=>Qa0 (n:=R1.length) Qdx (hv6 _ _ hs) (by simp) rfl (Zz hs)
  ·exact oa [1] fun D J w hs=>QaW rfl rfl (Zz hs)
  ·exact oa [2] fun D J w hs=>Qac (V:=.bool (decide (((R1.length:Nat):Int)=0))) rfl (Zz hs)
  ·exact og [3] fun D J w hG hs=>Qac (V:=.slice a7 R2.length cb7) rfl (Zz hs)
  ·refine oy [3,4] [4] fun D J w hG hs=>?_
   have hgd:=QQ2 (eq_of_beq (hG))
   exact Qaw Qdx QcL.1 (hv7 _ _ hs) rfl rfl (by decide) (by rw [QQ6];omega) (Zz hs)
  ·exact oy [3,5] [5] fun D J w hG hs=>Qaf Qdz rfl (Zz hs)
  ·refine oy [3,6] [6] fun D J w hG hs=>?_
   have hgd:=QQ2 (eq_of_beq (hG))
   exact QaU (j:=0) (V:=.int .u16 ((gd R2 0).item)) 0 Qar (hv7 _ _ hs) (Qa9 (by omega)) rfl rfl (by omega) (Zz hs)
  ·exact og [3] fun D J w hG hs=>Qac (V:=.slice a6 R1.length cb6) rfl (Zz hs)
  ·refine oy [3,8] [8] fun D J w hG hs=>?_
   have hgd:=QQ2 (eq_of_beq (hG))
   exact Qaw Qdx QcL.1 (hv6 _ _ hs) rfl rfl (by decide) (by rw [QQ6];omega) (Zz hs)
  ·exact oy [3,9] [9] fun D J w hG hs=>Qaf Qdz rfl (Zz hs)
  ·refine oy [3,10] [10] fun D J w hG hs=>?_
   have hgd:=QQ2 (eq_of_beq (hG))
   exact QaU (j:=0) (V:=.int .u16 ((gd R1 0).item)) 0 Qar (hv6 _ _ hs) (Qa9 (by omega)) rfl rfl (by omega) (Zz hs)
  ·exact oy [3,7,11] [7,11] fun D J w hG hs=>Qa2 rfl rfl (Zz hs)
  ·exact oa [3,12] fun D J w hs=>Qb2 (h':=decide ((gd R2 0).item<(gd R1 0).item)) rfl rfl rfl (Zz hs)
  ·exact oa [13] fun D J w hs=>Qad (V:=.bool ((decide (((R1.length:Nat):Int)=0))||(decide ((gd R2 0).item<(gd R1 0).item)))) rfl (Zz hs)
  rintro J1 w19 J2 hJ hs
  replace hJ:J2=upd (mix (sq 76 14++[75]) J1 _) 75 (.bool ((decide (((R1.length:Nat):Int)=0))||(decide ((gd R2 0).item<(gd R1 0).item)))):=hJ
  subst hJ
  refine Qam (t:=(decide (((R1.length:Nat):Int)=0))||(decide ((gd R2 0).item<(gd R1 0).item))) rfl (fun c20=>?_) (fun c20=>?_)
  ·
   refine Qag ?_
   have hz9:=Qu1 hn9 c20
   refine QaH HM [some 90,some 91,some 92,some 93,some 94,some 95,some 96,some 97,some 98,none,some 99,none] [] [0,1,3,7,0,16,48,112,15,271,1023,2047] [pv (.slice a7 R2.length cb7),pv (.pointer (some ⟨bkS (.slice a7 R2.length cb7),ofS (.slice a7 R2.length cb7)+(0:Int).toNat*2,none⟩)),pv (.pointer (some ⟨bkS (.slice a7 R2.length cb7),ofS (.slice a7 R2.length cb7)+(0:Int).toNat*2+0,none⟩)),pv (I7 ((gd R2 0).item)),pv (.slice a7 R2.length cb7),pv (.pointer (some ⟨bkS (.slice a7 R2.length cb7),ofS (.slice a7 R2.length cb7)+(0:Int).toNat*2,none⟩)),pv (.pointer (some ⟨bkS (.slice a7 R2.length cb7),ofS (.slice a7 R2.length cb7)+(0:Int).toNat*2+1,none⟩)),pv (.int .u32 ((gd R2 0).qty)),pv (Pq b9 (0+1)),pn,pv (Pq b9 (0+4)),pn] (fun D J=>[Qeg 60 83 b out,blk b1 [I7 va,.slice aa la.length ca,.bool ao,.int .u32 at_] 49,blk b3 [I7 vb,.slice ab lb.length cb,.bool bo,.int .u32 bt] 49,cond (D 11) (blk b9 (dfc (⟨vb,(gd R2 0).item,false,0,(gd R2 0).qty⟩:Dif)) 83) (cond (D 9) (blk b9 (dfc (⟨vb,(gd R2 0).item,false,0,0⟩:Dif)) 83) (blk b9 (dfc (⟨vb,0,false,0,0⟩:Dif)) 83))]) [] (by kernel_rfl) hs ⟨?_,?_,?_,?_,?_,?_,?_,?_,?_,?_,?_,?_,trivial⟩ ?_
   ·exact oa [] fun D J w hs=>Qac (V:=.slice a7 R2.length cb7) rfl (Zz hs)
   ·exact oa [0] fun D J w hs=>Qaw Qdx QcL.1 (hv7 _ _ hs) rfl rfl (by decide) (by rw [QQ6];omega) (Zz hs)
   ·exact oa [1] fun D J w hs=>Qaf Qdz rfl (Zz hs)
   ·exact oa [2] fun D J w hs=>QaU (j:=0) (V:=.int .u16 ((gd R2 0).item)) 0 Qar (hv7 _ _ hs) (Qa9 (by omega)) rfl rfl (by omega) (Zz hs)
   ·exact oa [] fun D J w hs=>Qac (V:=.slice a7 R2.length cb7) rfl (Zz hs)
   ·exact oa [4] fun D J w hs=>Qaw Qdx QcL.1 (hv7 _ _ hs) rfl rfl (by decide) (by rw [QQ6];omega) (Zz hs)
   ·exact oa [5] fun D J w hs=>Qaf Qfx rfl (Zz hs)
   ·exact oa [6] fun D J w hs=>QaU (j:=1) (V:=.int .u32 ((gd R2 0).qty)) 0 QaN (hv7 _ _ hs) (Qa9 (by omega)) rfl rfl (by omega) (Zz hs)
   ·exact oa [] fun D J w hs=>Qaf QiL rfl (Zz hs)
   ·exact ob [3,8] [11] rfl rfl fun D J w hs=>QcQ (V:=I7 ((gd R2 0).item)) (cs':=dfc (⟨vb,(gd R2 0).item,false,0,0⟩:Dif)) Qar hs 3 rfl rfl rfl rfl (QQ8 rfl) rfl fun _ hs=>⟨trivial,hs⟩
   ·exact oa [] fun D J w hs=>Qaf QfS rfl (Zz hs)
   ·exact oa [7,9,10] fun D J w hs=>QcQ (V:=.int .u32 ((gd R2 0).qty)) (cs':=dfc (⟨vb,(gd R2 0).item,false,0,(gd R2 0).qty⟩:Dif)) QaN hs 3 rfl rfl rfl rfl (QQ8 rfl) rfl fun _ hs=>⟨trivial,hs⟩
   rintro J1 w23 J2 hJ hs
   replace hJ:J2=mix (sq 90 10) J1 _:=hJ
   replace hs:Own w S w23 [Qeg 60 83 b out,blk b1 [I7 va,.slice aa la.length ca,.bool ao,.int .u32 at_] 49,blk b3 [I7 vb,.slice ab lb.length cb,.bool bo,.int .u32 bt] 49,blk b9 (dfc (⟨vb,(gd R2 0).item,false,0,(gd R2 0).qty⟩:Dif)) 83]:=hs
   subst hJ
   refine Qab (Qaa (Qac (V:=.slice a7 R2.length cb7) rfl (Qaa (Qk2 (l:=1) (h:=R2.length) (m:=cb7) (n':=(R2.drop 1).length) Qkc QcL.1 (hv7 _ _ hs) rfl (.inr ⟨_,_,rfl,rfl⟩) (.inl ⟨rfl,rfl⟩) (.inl ⟨rfl,rfl⟩) (by omega) (by omega) (Nat.le_trans (show R2.length<=R2.length by omega) (Rd.roomM (hv7 _ _ hs))) (Nat.le_refl _) (by simp only [List.length_take,List.length_drop]<;>omega) ?_))))
   refine Qaa (Qad (V:=.slice (sla a7 1 cb7 2) ((R2.drop 1).length) (cb7-1)) rfl (Qae (Qag (Qab (Qaa (Qaf Qgn rfl (Qaa (QaP (V:=.int .u32 0) QaN hs 3 rfl rfl rfl (Qaa (Qaf QfS rfl (Qaa (QaP (V:=.int .u32 ((gd R2 0).qty)) QaN hs 3 rfl rfl rfl (Qaa (QcC rfl rfl (Qae (Qam (t:=!decide (0=(gd R2 0).qty)) rfl (fun c24=>?_) (fun c24=>?_)))))))))))))))))
   ·
    replace c24:=Qby c24
    replace c24:=QQ2 c24
    refine Qab (Qaa (Qac (V:=.func (.func 65) #[] #[Pq b 0]) rfl (Qaa (QaO (cs:=dfc (⟨vb,(gd R2 0).item,false,0,(gd R2 0).qty⟩:Dif)) QiU hs 3 rfl rfl rfl (Qaa (Qpi (α:=Unit) (vs:=[.agg (dfc (⟨vb,(gd R2 0).item,false,0,(gd R2 0).qty⟩:Dif)).toArray]) (cs:=[Pq b 0]) (V:=fun _=>.tuple #[]) (R:=Qeg 60 83 b out) (R':=fun _=>Qeg 60 83 b (out++[(⟨vb,(gd R2 0).item,false,0,(gd R2 0).qty⟩:Dif)])) (Lo:=fun _=>[]) (F:=fun _ _=>True) QnH rfl rfl hs 0 rfl (fun S hS hlS=>QfD _ S b out (⟨vb,(gd R2 0).item,false,0,(gd R2 0).qty⟩:Dif) hS hlS (by omega)) fun _ w25 hs _=>(Qae ?_)))))))
    have hd9:=QpS hra hrb hdi (by omega) (QfB hrr.1 hz9)
    refine ⟨_,?_,_,R1,R2.drop 1,I++[(gd R2 0).item],(out++[(⟨vb,(gd R2 0).item,false,0,(gd R2 0).qty⟩:Dif)]),a6,cb6,(sla a7 1 cb7 2),cb7-1,Qak (Qak (Qao (ds:=([6,7,8]++sq 13 97)) (by repeat (first|exact Agr.refl _ _|refine Agr.upd ?_ rfl|refine Agr.mix ?_ rfl))) rfl) rfl,hd9.1,(Qho hout hd9.2.1 hd9.2.2 c24),hv6,(fun w1 L1 h=>Rd.dropM (hv7 w1 L1 h) 1 (by omega) _ (by rw [List.length_drop])),(by simp only [List.length_drop];omega),(by simp only [QQ7,List.length_singleton,List.length_drop];omega),rfl,hs.take 3⟩
    (simp only [List.length_drop];omega)
   replace c24:=Qbr c24
   replace c24:=QQ1 c24
   refine Qap ?_
   have hd9:=QpS hra hrb hdi (by omega) (QfB hrr.1 hz9)
   refine ⟨_,?_,_,R1,R2.drop 1,I++[(gd R2 0).item],out,a6,cb6,(sla a7 1 cb7 2),cb7-1,Qak (Qak (Qao (ds:=([6,7,8]++sq 13 97)) (by repeat (first|exact Agr.refl _ _|refine Agr.upd ?_ rfl|refine Agr.mix ?_ rfl))) rfl) rfl,hd9.1,(Qm0 hout hd9.2.1 hd9.2.2 c24),hv6,(fun w1 L1 h=>Rd.dropM (hv7 w1 L1 h) 1 (by omega) _ (by rw [List.length_drop])),(by simp only [List.length_drop];omega),(by simp only [List.length_drop];omega),rfl,hs.take 3⟩
   (simp only [List.length_drop];omega)
  have c20r:=QfW c20
  replace c20:=QfV c20
  replace c20:=QQ2 c20
  replace c20r:=QQ2 c20r
  refine Qag ?_
  have hz9:=Qvl c13r (by omega) (by omega)
  refine QaH HM [some 24,some 25,some 26,some 27,some 28,some 29,some 30,some 31,some 32,some 33,some 34,some 35,some 36,none,some 37,none,some 38,none] [] [0,1,3,7,0,16,48,112,0,256,768,1792,15,4111,12543,28927,65535,131071] [pv (.slice a6 R1.length cb6),pv (.pointer (some ⟨bkS (.slice a6 R1.length cb6),ofS (.slice a6 R1.length cb6)+(0:Int).toNat*2,none⟩)),pv (.pointer (some ⟨bkS (.slice a6 R1.length cb6),ofS (.slice a6 R1.length cb6)+(0:Int).toNat*2+0,none⟩)),pv (I7 ((gd R1 0).item)),pv (.slice a6 R1.length cb6),pv (.pointer (some ⟨bkS (.slice a6 R1.length cb6),ofS (.slice a6 R1.length cb6)+(0:Int).toNat*2,none⟩)),pv (.pointer (some ⟨bkS (.slice a6 R1.length cb6),ofS (.slice a6 R1.length cb6)+(0:Int).toNat*2+1,none⟩)),pv (.int .u32 ((gd R1 0).qty)),pv (.slice a7 R2.length cb7),pv (.pointer (some ⟨bkS (.slice a7 R2.length cb7),ofS (.slice a7 R2.length cb7)+(0:Int).toNat*2,none⟩)),pv (.pointer (some ⟨bkS (.slice a7 R2.length cb7),ofS (.slice a7 R2.length cb7)+(0:Int).toNat*2+1,none⟩)),pv (.int .u32 ((gd R2 0).qty)),pv (Pq b9 (0+1)),pn,pv (Pq b9 (0+3)),pn,pv (Pq b9 (0+4)),pn] (fun D J=>[Qeg 60 83 b out,blk b1 [I7 va,.slice aa la.length ca,.bool ao,.int .u32 at_] 49,blk b3 [I7 vb,.slice ab lb.length cb,.bool bo,.int .u32 bt] 49,cond (D 17) (blk b9 (dfc (⟨vb,(gd R1 0).item,false,(gd R1 0).qty,(gd R2 0).qty⟩:Dif)) 83) (cond (D 15) (blk b9 (dfc (⟨vb,(gd R1 0).item,false,(gd R1 0).qty,0⟩:Dif)) 83) (cond (D 13) (blk b9 (dfc (⟨vb,(gd R1 0).item,false,0,0⟩:Dif)) 83) (blk b9 (dfc (⟨vb,0,false,0,0⟩:Dif)) 83)))]) [] (by kernel_rfl) hs ⟨?_,?_,?_,?_,?_,?_,?_,?_,?_,?_,?_,?_,?_,?_,?_,?_,?_,?_,trivial⟩ ?_
  ·exact oa [] fun D J w hs=>Qac (V:=.slice a6 R1.length cb6) rfl (Zz hs)
  ·exact oa [0] fun D J w hs=>Qaw Qdx QcL.1 (hv6 _ _ hs) rfl rfl (by decide) (by rw [QQ6];omega) (Zz hs)
  ·exact oa [1] fun D J w hs=>Qaf Qdz rfl (Zz hs)
  ·exact oa [2] fun D J w hs=>QaU (j:=0) (V:=.int .u16 ((gd R1 0).item)) 0 Qar (hv6 _ _ hs) (Qa9 (by omega)) rfl rfl (by omega) (Zz hs)
  ·exact oa [] fun D J w hs=>Qac (V:=.slice a6 R1.length cb6) rfl (Zz hs)
  ·exact oa [4] fun D J w hs=>Qaw Qdx QcL.1 (hv6 _ _ hs) rfl rfl (by decide) (by rw [QQ6];omega) (Zz hs)
  ·exact oa [5] fun D J w hs=>Qaf Qfx rfl (Zz hs)
  ·exact oa [6] fun D J w hs=>QaU (j:=1) (V:=.int .u32 ((gd R1 0).qty)) 0 QaN (hv6 _ _ hs) (Qa9 (by omega)) rfl rfl (by omega) (Zz hs)
  ·exact oa [] fun D J w hs=>Qac (V:=.slice a7 R2.length cb7) rfl (Zz hs)
  ·exact oa [8] fun D J w hs=>Qaw Qdx QcL.1 (hv7 _ _ hs) rfl rfl (by decide) (by rw [QQ6];omega) (Zz hs)
  ·exact oa [9] fun D J w hs=>Qaf Qfx rfl (Zz hs)
  ·exact oa [10] fun D J w hs=>QaU (j:=1) (V:=.int .u32 ((gd R2 0).qty)) 0 QaN (hv7 _ _ hs) (Qa9 (by omega)) rfl rfl (by omega) (Zz hs)
  ·exact oa [] fun D J w hs=>Qaf QiL rfl (Zz hs)
  ·exact ob [3,12] [15,17] rfl rfl fun D J w hs=>QcQ (V:=I7 ((gd R1 0).item)) (cs':=dfc (⟨vb,(gd R1 0).item,false,0,0⟩:Dif)) Qar hs 3 rfl rfl rfl rfl (QQ8 rfl) rfl fun _ hs=>⟨trivial,hs⟩
  ·exact oa [] fun D J w hs=>Qaf Qgn rfl (Zz hs)
  ·exact ob [7,13,14] [17] rfl rfl fun D J w hs=>QcQ (V:=.int .u32 ((gd R1 0).qty)) (cs':=dfc (⟨vb,(gd R1 0).item,false,(gd R1 0).qty,0⟩:Dif)) QaN hs 3 rfl rfl rfl rfl (QQ8 rfl) rfl fun _ hs=>⟨trivial,hs⟩
  ·exact oa [] fun D J w hs=>Qaf QfS rfl (Zz hs)
  ·exact oa [11,13,15,16] fun D J w hs=>QcQ (V:=.int .u32 ((gd R2 0).qty)) (cs':=dfc (⟨vb,(gd R1 0).item,false,(gd R1 0).qty,(gd R2 0).qty⟩:Dif)) QaN hs 3 rfl rfl rfl rfl (QQ8 rfl) rfl fun _ hs=>⟨trivial,hs⟩
  rintro J1 w29 J2 hJ hs
  replace hJ:J2=mix (sq 24 15) J1 _:=hJ
  replace hs:Own w S w29 [Qeg 60 83 b out,blk b1 [I7 va,.slice aa la.length ca,.bool ao,.int .u32 at_] 49,blk b3 [I7 vb,.slice ab lb.length cb,.bool bo,.int .u32 bt] 49,blk b9 (dfc (⟨vb,(gd R1 0).item,false,(gd R1 0).qty,(gd R2 0).qty⟩:Dif)) 83]:=hs
  subst hJ
  refine QaH HM [some 39,some 40,some 41,some 42,some 6,some 7] [] [0,1,0,4,3,31] [pv (.slice a6 R1.length cb6),pv (.slice (sla a6 1 cb6 2) ((R1.drop 1).length) (cb6-1)),pv (.slice a7 R2.length cb7),pv (.slice (sla a7 1 cb7 2) ((R2.drop 1).length) (cb7-1)),pv (.slice (sla a6 1 cb6 2) ((R1.drop 1).length) (cb6-1)),pv (.slice (sla a7 1 cb7 2) ((R2.drop 1).length) (cb7-1))] (fun _ _=>_) [5,4] (by kernel_rfl) hs ⟨?_,?_,?_,?_,?_,?_,trivial⟩ ?_
  ·exact ob [] [4] rfl rfl fun D J w hs=>Qac (V:=.slice a6 R1.length cb6) rfl (Zz hs)
  ·exact oa [0] fun D J w hs=>Qk2 (l:=1) (h:=R1.length) (m:=cb6) (n':=(R1.drop 1).length) Qkc QcL.1 (hv6 _ _ hs) rfl (.inr ⟨_,_,rfl,rfl⟩) (.inl ⟨rfl,rfl⟩) (.inl ⟨rfl,rfl⟩) (by omega) (by omega) (Nat.le_trans (show R1.length<=R1.length by omega) (Rd.roomM (hv6 _ _ hs))) (Nat.le_refl _) (by simp only [List.length_take,List.length_drop]<;>omega) (Zz hs)
  ·exact ob [] [5] rfl rfl fun D J w hs=>Qac (V:=.slice a7 R2.length cb7) rfl (Zz hs)
  ·exact oa [2] fun D J w hs=>Qk2 (l:=1) (h:=R2.length) (m:=cb7) (n':=(R2.drop 1).length) Qkc QcL.1 (hv7 _ _ hs) rfl (.inr ⟨_,_,rfl,rfl⟩) (.inl ⟨rfl,rfl⟩) (.inl ⟨rfl,rfl⟩) (by omega) (by omega) (Nat.le_trans (show R2.length<=R2.length by omega) (Rd.roomM (hv7 _ _ hs))) (Nat.le_refl _) (by simp only [List.length_take,List.length_drop]<;>omega) (Zz hs)
  ·exact oa [1] fun D J w hs=>Qad (V:=.slice (sla a6 1 cb6 2) ((R1.drop 1).length) (cb6-1)) rfl (Zz hs)
  ·exact oa [3] fun D J w hs=>Qad (V:=.slice (sla a7 1 cb7 2) ((R2.drop 1).length) (cb7-1)) rfl (Zz hs)
  rintro J1 w30 J2 hJ hs
  replace hJ:J2=upd (upd (mix [39,40,41,42,6,7] J1 _) 6 (.slice (sla a6 1 cb6 2) ((R1.drop 1).length) (cb6-1))) 7 (.slice (sla a7 1 cb7 2) ((R2.drop 1).length) (cb7-1)):=hJ
  subst hJ
  refine Qag (Qab (Qaa (Qaf Qgn rfl (Qaa (QaP (V:=.int .u32 ((gd R1 0).qty)) QaN hs 3 rfl rfl rfl (Qaa (Qaf QfS rfl (Qaa (QaP (V:=.int .u32 ((gd R2 0).qty)) QaN hs 3 rfl rfl rfl (Qaa (QcC rfl rfl (Qae (Qam (t:=!decide ((gd R1 0).qty=(gd R2 0).qty)) rfl (fun c31=>?_) (fun c31=>?_))))))))))))))
  ·
   replace c31:=Qby c31
   replace c31:=QQ2 c31
   refine Qab (Qaa (Qac (V:=.func (.func 65) #[] #[Pq b 0]) rfl (Qaa (QaO (cs:=dfc (⟨vb,(gd R1 0).item,false,(gd R1 0).qty,(gd R2 0).qty⟩:Dif)) QiU hs 3 rfl rfl rfl (Qaa (Qpi (α:=Unit) (vs:=[.agg (dfc (⟨vb,(gd R1 0).item,false,(gd R1 0).qty,(gd R2 0).qty⟩:Dif)).toArray]) (cs:=[Pq b 0]) (V:=fun _=>.tuple #[]) (R:=Qeg 60 83 b out) (R':=fun _=>Qeg 60 83 b (out++[(⟨vb,(gd R1 0).item,false,(gd R1 0).qty,(gd R2 0).qty⟩:Dif)])) (Lo:=fun _=>[]) (F:=fun _ _=>True) QnH rfl rfl hs 0 rfl (fun S hS hlS=>QfD _ S b out (⟨vb,(gd R1 0).item,false,(gd R1 0).qty,(gd R2 0).qty⟩:Dif) hS hlS (by omega)) fun _ w32 hs _=>(Qae ?_)))))))
   have hd9:=QpX hra hrb hdi (by omega) (by omega) hz9
   refine ⟨_,?_,_,R1.drop 1,R2.drop 1,I++[(gd R1 0).item],(out++[(⟨vb,(gd R1 0).item,false,(gd R1 0).qty,(gd R2 0).qty⟩:Dif)]),(sla a6 1 cb6 2),cb6-1,(sla a7 1 cb7 2),cb7-1,Qak (Qak (Qao (ds:=([6,7,8]++sq 13 97)) (by repeat (first|exact Agr.refl _ _|refine Agr.upd ?_ rfl|refine Agr.mix ?_ rfl))) rfl) rfl,hd9.1,(Qho hout hd9.2.1 hd9.2.2 c31),(fun w1 L1 h=>Rd.dropM (hv6 w1 L1 h) 1 (by omega) _ (by rw [List.length_drop])),(fun w1 L1 h=>Rd.dropM (hv7 w1 L1 h) 1 (by omega) _ (by rw [List.length_drop])),(by simp only [List.length_drop];omega),(by simp only [QQ7,List.length_singleton,List.length_drop];omega),rfl,hs.take 3⟩
   (simp only [List.length_drop];omega)
  replace c31:=Qbr c31
  replace c31:=QQ1 c31
  refine Qap ?_
  have hd9:=QpX hra hrb hdi (by omega) (by omega) hz9
  refine ⟨_,?_,_,R1.drop 1,R2.drop 1,I++[(gd R1 0).item],out,(sla a6 1 cb6 2),cb6-1,(sla a7 1 cb7 2),cb7-1,Qak (Qak (Qao (ds:=([6,7,8]++sq 13 97)) (by repeat (first|exact Agr.refl _ _|refine Agr.upd ?_ rfl|refine Agr.mix ?_ rfl))) rfl) rfl,hd9.1,(Qm0 hout hd9.2.1 hd9.2.2 c31),(fun w1 L1 h=>Rd.dropM (hv6 w1 L1 h) 1 (by omega) _ (by rw [List.length_drop])),(fun w1 L1 h=>Rd.dropM (hv7 w1 L1 h) 1 (by omega) _ (by rw [List.length_drop])),(by simp only [List.length_drop];omega),(by simp only [List.length_drop];omega),rfl,hs.take 3⟩
  (simp only [List.length_drop];omega)
 have c8r:=QfW c8
 replace c8:=QfV c8
 replace c8:=QQ2 c8
 replace c8r:=QQ2 c8r
 refine QaJ (Qag (Qab (Qaa (Qaf Qek rfl (Qaa (QaP (V:=.bool ao) Qrs hs 1 rfl rfl rfl (Qaa (Qaf Qek rfl (Qaa (QaP (V:=.bool bo) Qrs hs 2 rfl rfl rfl (Qaa (QuY QuZ rfl rfl (Qae (Qam (t:=!(ao == bo)) rfl (fun c33=>?_) (fun c33=>?_)))))))))))))))
 ·
  replace c33:=Qby c33
  refine QaH HM [some 115,some 116,some 117,some 118,some 119,some 120,some 121,some 122,some 123,some 124,some 125] [] [0,0,2,0,8,24,0,64,248,510,1023] [pv (.func (.func 65) #[] #[Pq b 0]),pv (Pq b3 (0+0)),pv (I7 vb),pv (Pq b1 (0+2)),pv (.bool ao),pv (.int .u32 (QeE ao)),pv (Pq b3 (0+2)),pv (.bool bo),pv (.int .u32 (QeE bo)),pv (.agg (dfc (⟨vb,0,true,QeE ao,QeE bo⟩:Dif)).toArray),pv (.tuple #[])] (fun D J=>[cond (D 10) (Qeg 60 83 b (out++[(⟨vb,0,true,QeE ao,QeE bo⟩:Dif)])) (Qeg 60 83 b out),blk b1 [I7 va,.slice aa la.length ca,.bool ao,.int .u32 at_] 49,blk b3 [I7 vb,.slice ab lb.length cb,.bool bo,.int .u32 bt] 49]) [] (by kernel_rfl) hs ⟨?_,?_,?_,?_,?_,?_,?_,?_,?_,?_,?_,trivial⟩ ?_
  ·exact oa [] fun D J w hs=>Qac (V:=.func (.func 65) #[] #[.pointer (some ⟨b,0,none⟩)]) rfl (Zz hs)
  ·exact oa [] fun D J w hs=>Qaf Ql8 rfl (Zz hs)
  ·exact oa [1] fun D J w hs=>QaP (V:=.int .u16 vb) Qar hs 2 rfl rfl rfl (Zz hs)
  ·exact oa [] fun D J w hs=>Qaf Qek rfl (Zz hs)
  ·exact oa [3] fun D J w hs=>QaP (V:=.bool ao) Qrs hs 1 rfl rfl rfl (Zz hs)
  ·exact oa [4] fun D J w hs=>Qas (vs:=[.bool ao]) (V:=.int .u32 (QeE ao)) QpW rfl rfl (QjB _ ao) hs fun _ hs=>Zz hs
  ·exact oa [] fun D J w hs=>Qaf Qek rfl (Zz hs)
  ·exact oa [6] fun D J w hs=>QaP (V:=.bool bo) Qrs hs 2 rfl rfl rfl (Zz hs)
  ·exact oa [7] fun D J w hs=>Qas (vs:=[.bool bo]) (V:=.int .u32 (QeE bo)) QpW rfl rfl (QjB _ bo) hs fun _ hs=>Zz hs
  ·exact oa [2,5,8] fun D J w hs=>QbI (vs:=[(0,.int .u16 vb),(2,.bool true),(3,.int .u32 (QeE ao)),(4,.int .u32 (QeE bo))]) (cs:=dfc (⟨vb,0,true,QeE ao,QeE bo⟩:Dif)) Qrf (rfl) rfl (Zz hs)
  ·exact oa [0,9] fun D J w hs=>Qpi (α:=Unit) (vs:=[.agg (dfc (⟨vb,0,true,QeE ao,QeE bo⟩:Dif)).toArray]) (cs:=[.pointer (some ⟨b,0,none⟩)]) (V:=fun _=>.tuple #[]) (R:=Qeg 60 83 b out) (R':=fun _=>Qeg 60 83 b (out++[(⟨vb,0,true,QeE ao,QeE bo⟩:Dif)])) (Lo:=fun _=>[]) (F:=fun _ _=>True) QnH rfl rfl hs 0 rfl (fun S hS hlS=>QfD _ S b out (⟨vb,0,true,QeE ao,QeE bo⟩:Dif) hS hlS (by omega)) fun _ _ hs _=>⟨rfl,hs⟩
  rintro J1 w37 J2 hJ hs
  replace hJ:J2=mix (sq 115 11) J1 _:=hJ
  replace hs:Own w S w37 [Qeg 60 83 b (out++[(⟨vb,0,true,QeE ao,QeE bo⟩:Dif)]),blk b1 [I7 va,.slice aa la.length ca,.bool ao,.int .u32 at_] 49,blk b3 [I7 vb,.slice ab lb.length cb,.bool bo,.int .u32 bt] 49]:=hs
  subst hJ
  refine ⟨_,Qbd Tryz.results64,?_⟩
  have hof:=Qjw hdi (by omega) (by omega) hout
  have hX:(out++[(⟨vb,0,true,QeE ao,QeE bo⟩:Dif)])=L++Qej (⟨va,la,ao,at_⟩:Vw) (⟨vb,lb,bo,bt⟩:Vw):=Qmc hof (fun e=>by subst e;simp at c33)
  exact ⟨(),rfl,by rw [← hX];exact hs.only 0 rfl,trivial⟩
 replace c33:=Qbr c33
 refine Qap ?_
 refine ⟨_,Qbd Tryz.results64,?_⟩
 have hof:=Qjw hdi (by omega) (by omega) hout
 have hX:out=L++Qej (⟨va,la,ao,at_⟩:Vw) (⟨vb,lb,bo,bt⟩:Vw):=Qnc hof (eq_of_beq c33)
 exact ⟨(),rfl,by rw [← hX];exact hs.only 0 rfl,trivial⟩
end Tt
end Go.Proofs
namespace Go.Proofs
open Go Go.Vx Go.RowKit
namespace Tt
theorem Qpb (w:World) (p:Pst) (a1:Option Addr) (c1:Nat) (a2:Option Addr) (c2:Nat) (a3:Option Addr) (c3:Nat) (a b:Vec) (ha:QbR a) (hb:QbR b) (hsortE:Qgx Tryz.prog 48 49 cec 106 7 Qj4) (hsortU:Qgz Tryz.prog 134 .u16 32) (hok:QeV p) (hle:p.base.ents.length<=400) (hlt:p.base.ticks.length<=400) (hlo:p.ops.length<=400) (hr1:Rd w (.slice a1 p.base.ents.length c1) 7 (p.base.ents.map cec)) (hr2:Rd w (.slice a2 p.base.ticks.length c2) 2 (p.base.ticks.map lsc)) (hr3:Rd w (.slice a3 p.ops.length c3) 23 (p.ops.map oc)):Calls Tryz.prog 22 #[.agg (((vc p.base.known)++[(.slice a1 p.base.ents.length c1:Value),(.slice a2 p.base.ticks.length c2:Value) ])++[(.slice a3 p.ops.length c3:Value) ]++(vc p.known)).toArray,.agg (vc a).toArray,.agg (vc b).toArray] w (fun e w'=>∃ x:Option Addr × Nat,e = .returned (.tuple #[.slice x.1 (QcN p a b).length x.2,.int .i64 (Qc6 p a b)])/\Own w no w' [row (.slice x.1 (QcN p a b).length x.2) ((QcN p a b).map dfc) 83 5]/\True):=by
 refine Qai (n:=55) Tryz.func22 rfl Tryz.ntmps22 rfl ?_
 have hs:=Own.start w
 have ⟨hokb,hoko,hokk⟩:=hok
 have hsa:=Qc2 p a
 have hsoa:=QeH (cut:=a) hok ha
 have hsb:=Qc2 p b
 have hsob:=QeH (cut:=b) hok hb
 refine Qag (Qab (Qaa (Qa4 (V:=.agg (((vc p.base.known)++[(.slice a1 p.base.ents.length c1:Value),(.slice a2 p.base.ticks.length c2:Value) ])++[(.slice a3 p.ops.length c3:Value) ]++(vc p.known)).toArray) (cs:=((vc p.base.known)++[(.slice a1 p.base.ents.length c1:Value),(.slice a2 p.base.ticks.length c2:Value) ])++[(.slice a3 p.ops.length c3:Value) ]++(vc p.known)) rfl rfl hs fun b1 w2 hs=>(Qaa (Qa4 (V:=.agg (vc a).toArray) (cs:=vc a) rfl rfl hs fun b3 w4 hs=>(Qaa (Qa4 (V:=.agg (vc b).toArray) (cs:=vc b) rfl rfl hs fun b5 w6 hs=>(Qaa (Qad (V:=.slice none 0 0) rfl (Qaa (Qad (V:=I6 0) rfl (Qae (Qag (Qab (Qaa (QaO (cs:=((vc p.base.known)++[(.slice a1 p.base.ents.length c1:Value),(.slice a2 p.base.ticks.length c2:Value) ])++[(.slice a3 p.ops.length c3:Value) ]++(vc p.known)) QcV hs 0 rfl rfl rfl (Qaa (QaO (cs:=vc a) Qbu hs 1 rfl rfl rfl (Qaa (Qbm (α:=(Option Addr × Nat) × (Option Addr × Nat)) (vs:=[.agg (((vc p.base.known)++[(.slice a1 p.base.ents.length c1:Value),(.slice a2 p.base.ticks.length c2:Value) ])++[(.slice a3 p.ops.length c3:Value) ]++(vc p.known)).toArray,.agg (vc a).toArray]) (V:=fun x:(Option Addr × Nat) × (Option Addr × Nat)=>.tuple #[.agg (vc (Qah p a).known++[(.slice x.1.1 ((Qah p a).ents).length x.1.2:Value),(.slice x.2.1 ((Qah p a).ticks).length x.2.2:Value)]).toArray,I6 (Qbp p a)]) (Lo:=fun x=>[row (.slice x.1.1 ((Qah p a).ents).length x.1.2) (((Qah p a).ents).map cec) 106 7,row (.slice x.2.1 ((Qah p a).ticks).length x.2.2) (((Qah p a).ticks).map lsc) 102 2]) (F:=fun _ _=>True) Qlv rfl rfl ?hc hs fun x8 w7 hs _=>?_))))))))))))))))))))
 case hc=>exact (QdW _ p a1 c1 a2 c2 a3 c3 a ha hsortE hsortU hok hle hlt hlo (Rd.own' hr1 hs) (Rd.own' hr2 hs) (Rd.own' hr3 hs))
 replace hs:Own w no w7 [blk b1 (((vc p.base.known)++[(.slice a1 p.base.ents.length c1:Value),(.slice a2 p.base.ticks.length c2:Value) ])++[(.slice a3 p.ops.length c3:Value) ]++(vc p.known)) 43,blk b3 (vc a) 24,blk b5 (vc b) 24,row (.slice x8.1.1 (((Qah p a).ents).length) x8.1.2) (((Qah p a).ents).map cec) 106 7,row (.slice x8.2.1 (((Qah p a).ticks).length) x8.2.2) (((Qah p a).ticks).map lsc) 102 2]:=hs
 refine Qaa (Qac (V:=.tuple #[.agg ((vc ((Qah p a).known))++[(.slice x8.1.1 (((Qah p a).ents).length) x8.1.2:Value),(.slice x8.2.1 (((Qah p a).ticks).length) x8.2.2:Value) ]).toArray,I6 (Qbp p a)]) rfl (Qaa (Qax (V:=.agg ((vc ((Qah p a).known))++[(.slice x8.1.1 (((Qah p a).ents).length) x8.1.2:Value),(.slice x8.2.1 (((Qah p a).ticks).length) x8.2.2:Value) ]).toArray) rfl rfl (Qaa (Qax (V:=I6 (Qbp p a)) rfl rfl (Qaa (QaL (cs:=(vc vzero)++[(.slice none 0 0:Value),(.slice none 0 0:Value) ]) Qfr rfl hs fun b9 w10 hs=>(Qaa (QcG (V:=.agg ((vc ((Qah p a).known))++[(.slice x8.1.1 (((Qah p a).ents).length) x8.1.2:Value),(.slice x8.2.1 (((Qah p a).ticks).length) x8.2.2:Value) ]).toArray) (vs:=(vc ((Qah p a).known))++[(.slice x8.1.1 (((Qah p a).ents).length) x8.1.2:Value),(.slice x8.2.1 (((Qah p a).ticks).length) x8.2.2:Value) ]) (cs':=(vc ((Qah p a).known))++[(.slice x8.1.1 (((Qah p a).ents).length) x8.1.2:Value),(.slice x8.2.1 (((Qah p a).ticks).length) x8.2.2:Value) ]) QbS.1 hs 5 rfl rfl rfl rfl rfl (QQ8 rfl) (Qbh (QbQ _) (Qat rfl (Qat rfl Qa1))) (Qaz rfl) fun w11 hs=>(Qaa (Qad (V:=I6 (Qbp p a)) rfl (Qae (Qag (Qag (Qab (Qaa (Qac (V:=I6 (Qbp p a)) rfl (Qaa (QcC rfl rfl (Qae (Qam (t:=!decide (Qbp p a=0)) rfl (fun c12=>?_) (fun c12=>?_))))))))))))))))))))))
 ·
  replace c12:=Qby c12
  replace c12:=QQ2 c12
  refine Qag (Qab (Qaa (Qac (V:=I6 (Qbp p a)) rfl (Qaa (Qad (V:=.slice none 0 0) rfl (Qaa (Qad (V:=I6 (Qbp p a)) rfl (Qae (Qav ?_)))))))))
  refine ⟨_,QbF (U:=.slice none 0 0) (V:=I6 (Qbp p a)) Tryz.results22 rfl rfl,?_⟩
  have hX:Qc6 p a b=Qbp p a:=Qql c12
  rw [Qji (by rw [hX];exact c12),hX]
  exact ⟨(none,0),rfl,(hs.take 0).more _ (Qba _ _ _ _),trivial⟩
 replace c12:=Qbr c12
 replace c12:=QQ1 c12
 refine Qap (Qag (Qab (Qaa (QaO (cs:=((vc p.base.known)++[(.slice a1 p.base.ents.length c1:Value),(.slice a2 p.base.ticks.length c2:Value) ])++[(.slice a3 p.ops.length c3:Value) ]++(vc p.known)) QcV hs 0 rfl rfl rfl (Qaa (QaO (cs:=vc b) Qbu hs 2 rfl rfl rfl (Qaa (Qbm (α:=(Option Addr × Nat) × (Option Addr × Nat)) (vs:=[.agg (((vc p.base.known)++[(.slice a1 p.base.ents.length c1:Value),(.slice a2 p.base.ticks.length c2:Value) ])++[(.slice a3 p.ops.length c3:Value) ]++(vc p.known)).toArray,.agg (vc b).toArray]) (V:=fun x:(Option Addr × Nat) × (Option Addr × Nat)=>.tuple #[.agg (vc (Qah p b).known++[(.slice x.1.1 ((Qah p b).ents).length x.1.2:Value),(.slice x.2.1 ((Qah p b).ticks).length x.2.2:Value)]).toArray,I6 (Qbp p b)]) (Lo:=fun x=>[row (.slice x.1.1 ((Qah p b).ents).length x.1.2) (((Qah p b).ents).map cec) 106 7,row (.slice x.2.1 ((Qah p b).ticks).length x.2.2) (((Qah p b).ticks).map lsc) 102 2]) (F:=fun _ _=>True) Qlv rfl rfl ?hc hs fun x14 w13 hs _=>?_))))))))
 case hc=>exact (QdW _ p a1 c1 a2 c2 a3 c3 b hb hsortE hsortU hok hle hlt hlo (Rd.own' hr1 hs) (Rd.own' hr2 hs) (Rd.own' hr3 hs))
 refine Qaa (Qac (V:=.tuple #[.agg ((vc ((Qah p b).known))++[(.slice x14.1.1 (((Qah p b).ents).length) x14.1.2:Value),(.slice x14.2.1 (((Qah p b).ticks).length) x14.2.2:Value) ]).toArray,I6 (Qbp p b)]) rfl (Qaa (Qax (V:=.agg ((vc ((Qah p b).known))++[(.slice x14.1.1 (((Qah p b).ents).length) x14.1.2:Value),(.slice x14.2.1 (((Qah p b).ticks).length) x14.2.2:Value) ]).toArray) rfl rfl (Qaa (Qax (V:=I6 (Qbp p b)) rfl rfl (Qaa (QaL (cs:=(vc vzero)++[(.slice none 0 0:Value),(.slice none 0 0:Value) ]) Qfr rfl hs fun b15 w16 hs=>?_)))))))
 replace hs:Own w no w16 [blk b1 (((vc p.base.known)++[(.slice a1 p.base.ents.length c1:Value),(.slice a2 p.base.ticks.length c2:Value) ])++[(.slice a3 p.ops.length c3:Value) ]++(vc p.known)) 43,blk b3 (vc a) 24,blk b5 (vc b) 24,row (.slice x8.1.1 (((Qah p a).ents).length) x8.1.2) (((Qah p a).ents).map cec) 106 7,row (.slice x8.2.1 (((Qah p a).ticks).length) x8.2.2) (((Qah p a).ticks).map lsc) 102 2,blk b9 ((vc ((Qah p a).known))++[(.slice x8.1.1 (((Qah p a).ents).length) x8.1.2:Value),(.slice x8.2.1 (((Qah p a).ticks).length) x8.2.2:Value) ]) 38,row (.slice x14.1.1 (((Qah p b).ents).length) x14.1.2) (((Qah p b).ents).map cec) 106 7,row (.slice x14.2.1 (((Qah p b).ticks).length) x14.2.2) (((Qah p b).ticks).map lsc) 102 2,blk b15 ((vc vzero)++[(.slice none 0 0:Value),(.slice none 0 0:Value) ]) 38]:=hs
 refine Qaa (QcG (V:=.agg ((vc ((Qah p b).known))++[(.slice x14.1.1 (((Qah p b).ents).length) x14.1.2:Value),(.slice x14.2.1 (((Qah p b).ticks).length) x14.2.2:Value) ]).toArray) (vs:=(vc ((Qah p b).known))++[(.slice x14.1.1 (((Qah p b).ents).length) x14.1.2:Value),(.slice x14.2.1 (((Qah p b).ticks).length) x14.2.2:Value) ]) (cs':=(vc ((Qah p b).known))++[(.slice x14.1.1 (((Qah p b).ents).length) x14.1.2:Value),(.slice x14.2.1 (((Qah p b).ticks).length) x14.2.2:Value) ]) QbS.1 hs 8 rfl rfl rfl rfl rfl (QQ8 rfl) (Qbh (QbQ _) (Qat rfl (Qat rfl Qa1))) (Qaz rfl) fun w17 hs=>(Qaa (Qad (V:=I6 (Qbp p b)) rfl (Qae (Qag (Qan (Qag (Qab (Qaa (Qac (V:=I6 (Qbp p b)) rfl (Qaa (QcC rfl rfl (Qaa (Qad (V:=.bool (!decide (Qbp p b=0))) rfl (Qae (Qam (t:=!decide (Qbp p b=0)) rfl (fun c18=>?_) (fun c18=>?_)))))))))))))))))
 ·
  replace c18:=Qby c18
  replace c18:=QQ2 c18
  refine Qag (Qab (Qaa (Qac (V:=I6 (Qbp p b)) rfl (Qaa (Qad (V:=.slice none 0 0) rfl (Qaa (Qad (V:=I6 (Qbp p b)) rfl (Qae (Qav ?_)))))))))
  refine ⟨_,QbF (U:=.slice none 0 0) (V:=I6 (Qbp p b)) Tryz.results22 rfl rfl,?_⟩
  have hX:Qc6 p a b=Qbp p b:=Qrw c12 c18
  rw [Qji (by rw [hX];exact c18),hX]
  exact ⟨(none,0),rfl,(hs.take 0).more _ (Qba _ _ _ _),trivial⟩
 replace c18:=Qbr c18
 replace c18:=QQ1 c18
 refine Qag (Qab (Qaa (QaO (cs:=vc a) Qbu hs 1 rfl rfl rfl (Qaa (QaO (cs:=vc b) Qbu hs 2 rfl rfl rfl (Qaa (Qas (vs:=[.agg (vc a).toArray,.agg (vc b).toArray]) (V:=.bool (vle a b)) Qot rfl rfl ?hc hs fun w19 hs=>?_)))))))
 case hc=>exact (QeD _ a b)
 refine Qaa (Qbx rfl (Qaa (Qad (V:=.bool (!(vle a b))) rfl (Qae (Qam (t:=!(vle a b)) rfl (fun c20=>?_) (fun c20=>?_))))))
 ·
  replace c20:=Qby c20
  refine Qag (Qab (Qaa (Qad (V:=.slice none 0 0) rfl (Qaa (Qad (V:=I6 14) rfl (Qae (Qav ?_)))))))
  refine ⟨_,QbF (U:=.slice none 0 0) (V:=I6 14) Tryz.results22 rfl rfl,?_⟩
  have hX:Qc6 p a b=14:=QrH c12 c18 c20
  rw [Qji (by rw [hX];decide),hX]
  exact ⟨(none,0),rfl,(hs.take 0).more _ (Qba _ _ _ _),trivial⟩
 replace c20:=Qbr c20
 refine Qap (Qag (Qab (Qaa (QaL (cs:=[.slice none 0 0]) Qup rfl hs fun b21 w22 hs=>(Qae (Qag (Qag (Qab (Qaa (QaO (cs:=(vc ((Qah p b).known))++[(.slice x14.1.1 (((Qah p b).ents).length) x14.1.2:Value),(.slice x14.2.1 (((Qah p b).ticks).length) x14.2.2:Value) ]) QbS hs 8 rfl rfl rfl (Qaa (Qbm (vs:=[.agg ((vc ((Qah p b).known))++[(.slice x14.1.1 (((Qah p b).ents).length) x14.1.2:Value),(.slice x14.2.1 (((Qah p b).ticks).length) x14.2.2:Value) ]).toArray]) (V:=fun x:Option Addr × Nat=>.slice x.1 (Qay (Qah p b)).length x.2) QsG rfl rfl (QhP _ (Qah p b) x14.1.1 x14.1.2 x14.2.1 x14.2.2 hsob (by omega) (by omega) (hs.rd 6 rfl) (hs.rd 7 rfl)) hs fun x23 w24 hs _=>(Qaa (Qa0 (n:=(Qay (Qah p b)).length) QaK (hs.rd 10 rfl) (by simp) rfl (Qaa (Qac (V:=I6 0) rfl (Qae (Qan ?_))))))))))))))))))
 replace hs:=hs.more (row (.slice none 0 0) (List.map dfc []) 83 5) (Qba _ _ _ _)
 have ho:=(hs.join 9 11 (by decide) rfl rfl).conv 9 (R':=Qeg 60 83 b21 []) rfl fun _ h=>⟨(none,0),h⟩
 replace hs:=ho
 have hcl:=QfY (Qah p b)
 refine QaC (fun J μ J' w'=>∃ (Jo:Env) (k:Nat) (out:List Dif),J'=upd (mix ([13]++sq 41 13) Jo J) 41 (I6 (k:Int))/\(k<=(Qay (Qah p b)).length)/\(out=((Qay (Qah p b)).take k).flatMap (Qjh p a b))/\(out.length<=k*2000)/\μ=(Qay (Qah p b)).length-k/\Own w no w' [blk b1 (((vc p.base.known)++[(.slice a1 p.base.ents.length c1:Value),(.slice a2 p.base.ticks.length c2:Value) ])++[(.slice a3 p.ops.length c3:Value) ]++(vc p.known)) 43,blk b3 (vc a) 24,blk b5 (vc b) 24,row (.slice x8.1.1 (((Qah p a).ents).length) x8.1.2) (((Qah p a).ents).map cec) 106 7,row (.slice x8.2.1 (((Qah p a).ticks).length) x8.2.2) (((Qah p a).ticks).map lsc) 102 2,blk b9 ((vc ((Qah p a).known))++[(.slice x8.1.1 (((Qah p a).ents).length) x8.1.2:Value),(.slice x8.2.1 (((Qah p a).ticks).length) x8.2.2:Value) ]) 38,row (.slice x14.1.1 (((Qah p b).ents).length) x14.1.2) (((Qah p b).ents).map cec) 106 7,row (.slice x14.2.1 (((Qah p b).ticks).length) x14.2.2) (((Qah p b).ticks).map lsc) 102 2,blk b15 ((vc ((Qah p b).known))++[(.slice x14.1.1 (((Qah p b).ents).length) x14.1.2:Value),(.slice x14.2.1 (((Qah p b).ticks).length) x14.2.2:Value) ]) 38,Qeg 60 83 b21 out,row (.slice x23.1 ((Qay (Qah p b)).length) x23.2) ((Qay (Qah p b)).map (ic .u16)) 32 1,emp]) ?_ ?_
 ·exact ⟨_,_,0,[],Qak (Qao (ds:=([13]++sq 41 13)) (Agr.refl _ _)) rfl,(by omega),rfl,(Nat.le_refl _),rfl,hs⟩
 rintro μ J' w25 ⟨Jo,k,out,rfl,hk,hout,hol,rfl,hs⟩
 have hvl1:(Qa5 p a (gd (Qay (Qah p b)) k)).lines.length<=800:=Nat.le_trans (QeS _ _ _) (by omega)
 have hvl2:(Qa5 p b (gd (Qay (Qah p b)) k)).lines.length<=800:=Nat.le_trans (QeS _ _ _) (by omega)
 refine Qag (Qab (Qaa (Qa2 rfl rfl (Qae (Qag (Qam (t:=decide ((k:Int)<(((Qay (Qah p b)).length:Nat):Int))) rfl (fun c26=>?_) (fun c26=>?_)))))))
 ·
  replace c26:=QQ1 c26
  refine Qap (Qag (Qan (Qag (Qab (Qaa (Qaw QaK Qar.1 (hs.rd 10 rfl) rfl rfl (by omega) (by rw [QQ6];omega) (Qaa (QaU (j:=0) (V:=I7 (gd (Qay (Qah p b)) k)) k Qar (hs.rd 10 rfl) (Qa9 (by omega)) rfl rfl (by omega) (Qaa (Qad (V:=I7 (gd (Qay (Qah p b)) k)) rfl (Qae ?_)))))))))))
  replace hs:=hs.more emp trivial
  replace hs:=hs.more emp trivial
  refine QaH HM [some 45,some 46,some 47,some 48,some 49,some 50,some 51,some 52] [[],[],[47],[],[],[50]] [0,0,3,0,0,31,0,127] [pv (.agg ((vc ((Qah p a).known))++[(.slice x8.1.1 (((Qah p a).ents).length) x8.1.2:Value),(.slice x8.2.1 (((Qah p a).ticks).length) x8.2.2:Value) ]).toArray),pv (I7 (gd (Qay (Qah p b)) k)),(true,fun J=>.agg #[I7 ((Qa5 p a (gd (Qay (Qah p b)) k)).cart),.slice (aOf (QfA (J 47) 1)) (((Qa5 p a (gd (Qay (Qah p b)) k)).lines).length) (cOf (QfA (J 47) 1)),.bool ((Qa5 p a (gd (Qay (Qah p b)) k)).out),.int .u32 ((Qa5 p a (gd (Qay (Qah p b)) k)).tick)]),pv (.agg ((vc ((Qah p b).known))++[(.slice x14.1.1 (((Qah p b).ents).length) x14.1.2:Value),(.slice x14.2.1 (((Qah p b).ticks).length) x14.2.2:Value) ]).toArray),pv (I7 (gd (Qay (Qah p b)) k)),(true,fun J=>.agg #[I7 ((Qa5 p b (gd (Qay (Qah p b)) k)).cart),.slice (aOf (QfA (J 50) 1)) (((Qa5 p b (gd (Qay (Qah p b)) k)).lines).length) (cOf (QfA (J 50) 1)),.bool ((Qa5 p b (gd (Qay (Qah p b)) k)).out),.int .u32 ((Qa5 p b (gd (Qay (Qah p b)) k)).tick)]),pv (.func (.func 65) #[] #[Pq b21 0]),pv (.tuple #[])] (fun D J=>[blk b1 (((vc p.base.known)++[(.slice a1 p.base.ents.length c1:Value),(.slice a2 p.base.ticks.length c2:Value) ])++[(.slice a3 p.ops.length c3:Value) ]++(vc p.known)) 43,blk b3 (vc a) 24,blk b5 (vc b) 24,row (.slice x8.1.1 (((Qah p a).ents).length) x8.1.2) (((Qah p a).ents).map cec) 106 7,row (.slice x8.2.1 (((Qah p a).ticks).length) x8.2.2) (((Qah p a).ticks).map lsc) 102 2,blk b9 ((vc ((Qah p a).known))++[(.slice x8.1.1 (((Qah p a).ents).length) x8.1.2:Value),(.slice x8.2.1 (((Qah p a).ticks).length) x8.2.2:Value) ]) 38,row (.slice x14.1.1 (((Qah p b).ents).length) x14.1.2) (((Qah p b).ents).map cec) 106 7,row (.slice x14.2.1 (((Qah p b).ticks).length) x14.2.2) (((Qah p b).ticks).map lsc) 102 2,blk b15 ((vc ((Qah p b).known))++[(.slice x14.1.1 (((Qah p b).ents).length) x14.1.2:Value),(.slice x14.2.1 (((Qah p b).ticks).length) x14.2.2:Value) ]) 38,cond (D 7) (Qeg 60 83 b21 (out++Qej (Qa5 p a (gd (Qay (Qah p b)) k)) (Qa5 p b (gd (Qay (Qah p b)) k)))) (Qeg 60 83 b21 out),row (.slice x23.1 ((Qay (Qah p b)).length) x23.2) ((Qay (Qah p b)).map (ic .u16)) 32 1,emp,cond (D 2) (row (.slice (aOf (QfA (J 47) 1)) (((Qa5 p a (gd (Qay (Qah p b)) k)).lines).length) (cOf (QfA (J 47) 1))) (((Qa5 p a (gd (Qay (Qah p b)) k)).lines).map lc) 127 2) (emp),cond (D 5) (row (.slice (aOf (QfA (J 50) 1)) (((Qa5 p b (gd (Qay (Qah p b)) k)).lines).length) (cOf (QfA (J 50) 1))) (((Qa5 p b (gd (Qay (Qah p b)) k)).lines).map lc) 127 2) (emp)]) [] (by kernel_rfl) hs ⟨?_,?_,?_,?_,?_,?_,?_,?_,trivial⟩ ?_
  ·exact oa [] fun D J w hs=>QaO (cs:=(vc ((Qah p a).known))++[(.slice x8.1.1 (((Qah p a).ents).length) x8.1.2:Value),(.slice x8.2.1 (((Qah p a).ticks).length) x8.2.2:Value) ]) QbS hs 5 rfl rfl rfl (Zz hs)
  ·exact oa [] fun D J w hs=>Qac (V:=.int .u16 (gd (Qay (Qah p b)) k)) rfl (Zz hs)
  ·exact oa [0,1] fun D J w hs=>Qbm (α:=Option Addr × Nat) (vs:=[.agg ((vc ((Qah p a).known))++[(.slice x8.1.1 (((Qah p a).ents).length) x8.1.2:Value),(.slice x8.2.1 (((Qah p a).ticks).length) x8.2.2:Value) ]).toArray,.int .u16 (gd (Qay (Qah p b)) k)]) (V:=fun x=>.agg #[.int .u16 ((Qa5 p a (gd (Qay (Qah p b)) k)).cart),.slice x.1 (((Qa5 p a (gd (Qay (Qah p b)) k)).lines).length) x.2,.bool ((Qa5 p a (gd (Qay (Qah p b)) k)).out),.int .u32 ((Qa5 p a (gd (Qay (Qah p b)) k)).tick)]) (Lo:=fun x=>[row (.slice x.1 ((Qa5 p a (gd (Qay (Qah p b)) k)).lines).length x.2) (((Qa5 p a (gd (Qay (Qah p b)) k)).lines).map lc) 127 2]) (F:=fun _ _=>True) QoS rfl rfl (QeN _ (Qah p a) x8.1.1 x8.1.2 x8.2.1 x8.2.2 (gd (Qay (Qah p b)) k) (Qa5 p a (gd (Qay (Qah p b)) k):Vw) (rfl) hsoa (by omega) (by omega) (hs.rd 3 rfl) (hs.rd 4 rfl)) hs fun _ _ hs _=>⟨rfl,hs.put 12 (QQ8 rfl)⟩
  ·exact oa [] fun D J w hs=>QaO (cs:=(vc ((Qah p b).known))++[(.slice x14.1.1 (((Qah p b).ents).length) x14.1.2:Value),(.slice x14.2.1 (((Qah p b).ticks).length) x14.2.2:Value) ]) QbS hs 8 rfl rfl rfl (Zz hs)
  ·exact oa [] fun D J w hs=>Qac (V:=.int .u16 (gd (Qay (Qah p b)) k)) rfl (Zz hs)
  ·exact oa [3,4] fun D J w hs=>Qbm (α:=Option Addr × Nat) (vs:=[.agg ((vc ((Qah p b).known))++[(.slice x14.1.1 (((Qah p b).ents).length) x14.1.2:Value),(.slice x14.2.1 (((Qah p b).ticks).length) x14.2.2:Value) ]).toArray,.int .u16 (gd (Qay (Qah p b)) k)]) (V:=fun x=>.agg #[.int .u16 ((Qa5 p b (gd (Qay (Qah p b)) k)).cart),.slice x.1 (((Qa5 p b (gd (Qay (Qah p b)) k)).lines).length) x.2,.bool ((Qa5 p b (gd (Qay (Qah p b)) k)).out),.int .u32 ((Qa5 p b (gd (Qay (Qah p b)) k)).tick)]) (Lo:=fun x=>[row (.slice x.1 ((Qa5 p b (gd (Qay (Qah p b)) k)).lines).length x.2) (((Qa5 p b (gd (Qay (Qah p b)) k)).lines).map lc) 127 2]) (F:=fun _ _=>True) QoS rfl rfl (QeN _ (Qah p b) x14.1.1 x14.1.2 x14.2.1 x14.2.2 (gd (Qay (Qah p b)) k) (Qa5 p b (gd (Qay (Qah p b)) k):Vw) (rfl) hsob (by omega) (by omega) (hs.rd 6 rfl) (hs.rd 7 rfl)) hs fun _ _ hs _=>⟨rfl,hs.put 13 (QQ8 rfl)⟩
  ·exact oa [] fun D J w hs=>QcX (cs:=[.pointer (some ⟨b21,0,none⟩)]) rfl rfl (Zz hs)
  ·exact oa [2,5,6] fun D J w hs=>Qjl (α:=Unit) (vs:=[.agg #[.int .u16 ((Qa5 p a (gd (Qay (Qah p b)) k)).cart),.slice (aOf (QfA (J 47) 1)) (((Qa5 p a (gd (Qay (Qah p b)) k)).lines).length) (cOf (QfA (J 47) 1)),.bool ((Qa5 p a (gd (Qay (Qah p b)) k)).out),.int .u32 ((Qa5 p a (gd (Qay (Qah p b)) k)).tick)],.agg #[.int .u16 ((Qa5 p b (gd (Qay (Qah p b)) k)).cart),.slice (aOf (QfA (J 50) 1)) (((Qa5 p b (gd (Qay (Qah p b)) k)).lines).length) (cOf (QfA (J 50) 1)),.bool ((Qa5 p b (gd (Qay (Qah p b)) k)).out),.int .u32 ((Qa5 p b (gd (Qay (Qah p b)) k)).tick)],.func (.func 65) #[] #[.pointer (some ⟨b21,0,none⟩)]]) (V:=fun _=>.tuple #[]) (R:=Qeg 60 83 b21 out) (R':=fun _=>Qeg 60 83 b21 (out++Qej (Qa5 p a (gd (Qay (Qah p b)) k)) (Qa5 p b (gd (Qay (Qah p b)) k)))) (Lo:=fun _=>[]) (F:=fun _ _=>True) QuS rfl rfl hs 9 rfl (fun S hS hlS hK=>QlD _ S b21 out ((Qa5 p a (gd (Qay (Qah p b)) k)).cart) ((Qa5 p a (gd (Qay (Qah p b)) k)).lines) ((Qa5 p a (gd (Qay (Qah p b)) k)).out) ((Qa5 p a (gd (Qay (Qah p b)) k)).tick) (aOf (QfA (J 47) 1)) (cOf (QfA (J 47) 1)) ((Qa5 p b (gd (Qay (Qah p b)) k)).cart) ((Qa5 p b (gd (Qay (Qah p b)) k)).lines) ((Qa5 p b (gd (Qay (Qah p b)) k)).out) ((Qa5 p b (gd (Qay (Qah p b)) k)).tick) (aOf (QfA (J 50) 1)) (cOf (QfA (J 50) 1)) (Qjp _ _ _) (Qjp _ _ _) (Nat.le_trans (QeS _ _ _) (by omega)) (Nat.le_trans (QeS _ _ _) (by omega)) (fun w1 L1 h=>(hK 12 (by decide) _ rfl).rd h) (fun w1 L1 h=>(hK 13 (by decide) _ rfl).rd h) hS hlS (by omega)) fun _ _ hs _=>⟨rfl,hs⟩
  rintro J1 w30 J2 hJ hs
  replace hJ:J2=mix (sq 45 8) J1 _:=hJ
  replace hs:Own w no w30 [blk b1 (((vc p.base.known)++[(.slice a1 p.base.ents.length c1:Value),(.slice a2 p.base.ticks.length c2:Value) ])++[(.slice a3 p.ops.length c3:Value) ]++(vc p.known)) 43,blk b3 (vc a) 24,blk b5 (vc b) 24,row (.slice x8.1.1 (((Qah p a).ents).length) x8.1.2) (((Qah p a).ents).map cec) 106 7,row (.slice x8.2.1 (((Qah p a).ticks).length) x8.2.2) (((Qah p a).ticks).map lsc) 102 2,blk b9 ((vc ((Qah p a).known))++[(.slice x8.1.1 (((Qah p a).ents).length) x8.1.2:Value),(.slice x8.2.1 (((Qah p a).ticks).length) x8.2.2:Value) ]) 38,row (.slice x14.1.1 (((Qah p b).ents).length) x14.1.2) (((Qah p b).ents).map cec) 106 7,row (.slice x14.2.1 (((Qah p b).ticks).length) x14.2.2) (((Qah p b).ticks).map lsc) 102 2,blk b15 ((vc ((Qah p b).known))++[(.slice x14.1.1 (((Qah p b).ents).length) x14.1.2:Value),(.slice x14.2.1 (((Qah p b).ticks).length) x14.2.2:Value) ]) 38,Qeg 60 83 b21 (out++Qej (Qa5 p a (gd (Qay (Qah p b)) k)) (Qa5 p b (gd (Qay (Qah p b)) k))),row (.slice x23.1 ((Qay (Qah p b)).length) x23.2) ((Qay (Qah p b)).map (ic .u16)) 32 1,emp,row (.slice (aOf (QfA (J1 47) 1)) (((Qa5 p a (gd (Qay (Qah p b)) k)).lines).length) (cOf (QfA (J1 47) 1))) (((Qa5 p a (gd (Qay (Qah p b)) k)).lines).map lc) 127 2,row (.slice (aOf (QfA (J1 50) 1)) (((Qa5 p b (gd (Qay (Qah p b)) k)).lines).length) (cOf (QfA (J1 50) 1))) (((Qa5 p b (gd (Qay (Qah p b)) k)).lines).map lc) 127 2]:=hs
  generalize (aOf (QfA (J1 47) 1))=na31 at hs
  generalize (cOf (QfA (J1 47) 1))=nc32 at hs
  generalize (aOf (QfA (J1 50) 1))=na33 at hs
  generalize (cOf (QfA (J1 50) 1))=nc34 at hs
  subst hJ
  refine Qab (Qaa (QaD (a:=(k:Int)) (b:=1) (c:=((k+1:Nat):Int)) rfl rfl (Qaj (by omega) (by omega)) (Qaa (Qac (V:=I6 ((k+1:Nat):Int)) rfl (Qae ?_)))))
  refine ⟨_,?_,_,k+1,(out++Qej (Qa5 p a (gd (Qay (Qah p b)) k)) (Qa5 p b (gd (Qay (Qah p b)) k))),Qak (Qao (ds:=([13]++sq 41 13)) (by repeat (first|exact Agr.refl _ _|refine Agr.upd ?_ rfl|refine Agr.mix ?_ rfl))) rfl,(by omega),(Qmk hout (by omega)),(by have h9:=QnC (Qa5 p a (gd (Qay (Qah p b)) k)) (Qa5 p b (gd (Qay (Qah p b)) k));rw [QQ7];omega),rfl,hs.take 12⟩
  omega
 replace c26:=QQ2 c26
 refine QaJ (Qag ?_)
 obtain ⟨⟨ao9,co9⟩,hs⟩:=hs.unpack 9 rfl
 replace hs:=hs.split 9 rfl
 refine Qab (Qaa (QaP (V:=.slice ao9 out.length co9) QqN hs 9 rfl rfl rfl (Qaa (Qad (V:=.slice ao9 out.length co9) rfl (Qaa (Qad (V:=I6 0) rfl (Qae (Qav ?_))))))))
 refine ⟨_,QbF (U:=.slice ao9 out.length co9) (V:=I6 0) Tryz.results22 rfl rfl,?_⟩
 have hX:Qc6 p a b=0:=QlP c12 c18 c20
 rw [Qol hX hout (by omega),hX]
 exact ⟨(ao9,co9),rfl,hs.only 12 rfl,trivial⟩
end Tt
end Go.Proofs
namespace Go.Proofs
open Go Go.Vx Go.RowKit
namespace Tt
theorem QkE (w:World) (hsortE:Qgx Tryz.prog 48 49 cec 106 7 Qj4) (hsortU:Qgz Tryz.prog 134 .u16 32):Calls Tryz.prog 10 #[] w (fun e w'=>e = .returned (.bool true)/\Own w no w' []):=by
 refine Qai (n:=101) Tryz.func10 rfl Tryz.ntmps10 rfl ?_
 have hs:=Own.start w
 refine Qag (Qab (Qaa (Qad (V:=.bool false) rfl (Qae (Qag (Qab (Qaa (QbI (vs:=[(1,.int .u32 1)]) (cs:=dc (⟨0,1⟩:Dot)) Qvg (rfl) rfl (Qaa (QaX (V:=.agg (oc (⟨(⟨0,1⟩:Dot),1,3,4,2,5,vzero⟩:Opn)).toArray) (V':=.agg (oc QpA).toArray) (Qcr (vs:=[(0,.agg (dc (⟨0,1⟩:Dot)).toArray),(1,.int .u8 1),(2,I7 3),(3,I7 4),(4,I7 2),(5,.int .u32 5)]) (cs:=oc (⟨(⟨0,1⟩:Dot),1,3,4,2,5,vzero⟩:Opn)) [dc (⟨0,0⟩:Dot),[(.int .u8 0:Value)],[(I7 0:Value)],[(I7 0:Value)],[(I7 0:Value)],[(.int .u32 0:Value)],vc vzero] [dc (⟨0,1⟩:Dot),[(.int .u8 1:Value)],[(I7 3:Value)],[(I7 4:Value)],[(I7 2:Value)],[(.int .u32 5:Value)],vc vzero] Qrd rfl (rfl) rfl rfl ⟨rfl,rfl⟩) rfl (Qaa (QhI (vals:=[.agg (oc QpA).toArray]) (ls:=List.map oc ([QpA]:List Opn)) Qi3 rfl rfl rfl (Qbj (enc:=oc) (fun _=>rfl) _) (QaV Qc1 _) (QQ8 rfl) hs fun b1 w2 hs=>(Qaa (QaX (V:=.agg (vc (vset vzero 0 1)).toArray) (V':=.agg (vc alK).toArray) (QbI (vs:=[(0,.int .u32 1)]) (cs:=vc (vset vzero 0 1)) Qix (rfl) rfl ⟨rfl,rfl⟩) rfl (Qaa (Qcr (vs:=[(1,.slice (some ⟨b1,0,none⟩) 1 1),(2,.agg (vc alK).toArray)]) (cs:=((vc vzero)++[(.slice none 0 0:Value),(.slice none 0 0:Value) ])++[(.slice (some ⟨b1,0,none⟩) 1 1:Value) ]++(vc alK)) [(vc vzero)++[(.slice none 0 0:Value),(.slice none 0 0:Value) ],[(.slice none 0 0:Value)],vc vzero] [(vc vzero)++[(.slice none 0 0:Value),(.slice none 0 0:Value) ],[(.slice (some ⟨b1,0,none⟩) 1 1:Value)],vc alK] QrB rfl (rfl) rfl rfl (Qaa (QaL (cs:=((vc vzero)++[(.slice none 0 0:Value),(.slice none 0 0:Value) ])++[(.slice none 0 0:Value) ]++(vc vzero)) Qpd rfl hs fun b3 w4 hs=>(Qaa (QcG (V:=.agg (((vc vzero)++[(.slice none 0 0:Value),(.slice none 0 0:Value) ])++[(.slice (some ⟨b1,0,none⟩) 1 1:Value) ]++(vc alK)).toArray) (vs:=((vc vzero)++[(.slice none 0 0:Value),(.slice none 0 0:Value) ])++[(.slice (some ⟨b1,0,none⟩) 1 1:Value) ]++(vc alK)) (cs':=((vc vzero)++[(.slice none 0 0:Value),(.slice none 0 0:Value) ])++[(.slice (some ⟨b1,0,none⟩) 1 1:Value) ]++(vc alK)) QcV.1 hs 1 rfl rfl rfl rfl rfl (QQ8 rfl) (Qbh (Qbh (Qbh (QbQ _) (Qat rfl (Qat rfl Qa1))) (Qat rfl Qa1)) (QbQ _)) (Qaz rfl) fun w5 hs=>(Qae (Qag (Qab (Qaa (QaO (cs:=((vc vzero)++[(.slice none 0 0:Value),(.slice none 0 0:Value) ])++[(.slice (some ⟨b1,0,none⟩) 1 1:Value) ]++(vc alK)) QcV hs 1 rfl rfl rfl (Qaa (QaX (V:=.agg (vc (vset vzero 0 1)).toArray) (V':=.agg (vc alK).toArray) (QbI (vs:=[(0,.int .u32 1)]) (cs:=vc (vset vzero 0 1)) Qix (rfl) rfl ⟨rfl,rfl⟩) rfl (Qaa (Qbm (α:=Option Addr × Nat) (vs:=[.agg (((vc vzero)++[(.slice none 0 0:Value),(.slice none 0 0:Value) ])++[(.slice (some ⟨b1,0,none⟩) 1 1:Value) ]++(vc alK)).toArray,.agg (vc alK).toArray,I7 3]) (V:=fun x=>.tuple #[.agg #[I7 ((QaG alP alK 3).cart),.slice x.1 (((QaG alP alK 3).lines).length) x.2,.bool ((QaG alP alK 3).out),.int .u32 ((QaG alP alK 3).tick)],I6 (Qbp alP alK)]) (Lo:=fun x=>[row (.slice x.1 ((QaG alP alK 3).lines).length x.2) (((QaG alP alK 3).lines).map lc) 127 2]) (F:=fun _ _=>True) Qqg rfl rfl ?hc hs fun x7 w6 hs _=>?_)))))))))))))))))))))))))))))
 case hc=>exact (Qg8 _ alP none 0 none 0 (some ⟨b1,0,none⟩) 1 alK Qh3 3 hsortE hsortU QgX (by decide) (by decide) (by decide) (Rd.nil _ 7) (Rd.nil _ 2) (hs.rd 0 rfl))
 replace hs:Own w no w6 [row (.slice (some ⟨b1,0,none⟩) 1 1) ([QpA].map oc) 98 23,blk b3 (((vc vzero)++[(.slice none 0 0:Value),(.slice none 0 0:Value) ])++[(.slice (some ⟨b1,0,none⟩) 1 1:Value) ]++(vc alK)) 43,row (.slice x7.1 (((QaG alP alK 3).lines).length) x7.2) (((QaG alP alK 3).lines).map lc) 127 2]:=hs
 refine Qaa (Qac (V:=.tuple #[.agg #[I7 ((QaG alP alK 3).cart),.slice x7.1 (((QaG alP alK 3).lines).length) x7.2,.bool ((QaG alP alK 3).out),.int .u32 ((QaG alP alK 3).tick)],I6 (Qbp alP alK)]) rfl (Qaa (Qax (V:=.agg #[I7 ((QaG alP alK 3).cart),.slice x7.1 (((QaG alP alK 3).lines).length) x7.2,.bool ((QaG alP alK 3).out),.int .u32 ((QaG alP alK 3).tick)]) rfl rfl (Qaa (Qax (V:=I6 (Qbp alP alK)) rfl rfl (Qaa (QaL (cs:=[I7 0,.slice none 0 0,.bool false,.int .u32 0]) QiW rfl hs fun b8 w9 hs=>(Qaa (QcG (V:=.agg #[I7 ((QaG alP alK 3).cart),.slice x7.1 (((QaG alP alK 3).lines).length) x7.2,.bool ((QaG alP alK 3).out),.int .u32 ((QaG alP alK 3).tick)]) (vs:=[I7 ((QaG alP alK 3).cart),.slice x7.1 (((QaG alP alK 3).lines).length) x7.2,.bool ((QaG alP alK 3).out),.int .u32 ((QaG alP alK 3).tick)]) (cs':=[I7 ((QaG alP alK 3).cart),.slice x7.1 (((QaG alP alK 3).lines).length) x7.2,.bool ((QaG alP alK 3).out),.int .u32 ((QaG alP alK 3).tick)]) Qeu.1 hs 3 rfl rfl rfl rfl rfl (QQ8 rfl) (Qat rfl (Qat rfl (Qat rfl (Qat rfl Qa1)))) (Qaz rfl) fun w10 hs=>(Qaa (Qad (V:=I6 (Qbp alP alK)) rfl (Qae (Qag (Qab (Qaa (QaO (cs:=((vc vzero)++[(.slice none 0 0:Value),(.slice none 0 0:Value) ])++[(.slice (some ⟨b1,0,none⟩) 1 1:Value) ]++(vc alK)) QcV hs 1 rfl rfl rfl (Qaa (QbI (vs:=[]) (cs:=vc vzero) Qix (rfl) rfl (Qaa (QaX (V:=.agg (vc (vset vzero 0 1)).toArray) (V':=.agg (vc alK).toArray) (QbI (vs:=[(0,.int .u32 1)]) (cs:=vc (vset vzero 0 1)) Qix (rfl) rfl ⟨rfl,rfl⟩) rfl (Qaa (Qbm (vs:=[.agg (((vc vzero)++[(.slice none 0 0:Value),(.slice none 0 0:Value) ])++[(.slice (some ⟨b1,0,none⟩) 1 1:Value) ]++(vc alK)).toArray,.agg (vc vzero).toArray,.agg (vc alK).toArray]) (V:=fun x:Option Addr × Nat=>.tuple #[.slice x.1 (QcN alP vzero alK).length x.2,I6 (Qc6 alP vzero alK)]) Quk rfl rfl (Qpb _ alP none 0 none 0 (some ⟨b1,0,none⟩) 1 vzero alK Qcx Qh3 hsortE hsortU QgX (by decide) (by decide) (by decide) (Rd.nil _ 7) (Rd.nil _ 2) (hs.rd 0 rfl)) hs fun x12 w11 hs _=>(Qaa (Qac (V:=.tuple #[.slice x12.1 ((QcN alP vzero alK).length) x12.2,I6 (Qc6 alP vzero alK)]) rfl (Qaa (Qax (V:=.slice x12.1 ((QcN alP vzero alK).length) x12.2) rfl rfl (Qaa (Qax (V:=I6 (Qc6 alP vzero alK)) rfl rfl (Qaa (Qad (V:=.slice x12.1 ((QcN alP vzero alK).length) x12.2) rfl (Qaa (Qad (V:=I6 (Qc6 alP vzero alK)) rfl (Qae (Qag (Qab (Qaa (QaO (cs:=((vc vzero)++[(.slice none 0 0:Value),(.slice none 0 0:Value) ])++[(.slice (some ⟨b1,0,none⟩) 1 1:Value) ]++(vc alK)) QcV hs 1 rfl rfl rfl (Qaa (QaX (V:=.agg (vc (vset vzero 0 1)).toArray) (V':=.agg (vc alK).toArray) (QbI (vs:=[(0,.int .u32 1)]) (cs:=vc (vset vzero 0 1)) Qix (rfl) rfl ⟨rfl,rfl⟩) rfl (Qaa (Qbm (vs:=[.agg (((vc vzero)++[(.slice none 0 0:Value),(.slice none 0 0:Value) ])++[(.slice (some ⟨b1,0,none⟩) 1 1:Value) ]++(vc alK)).toArray,.agg (vc alK).toArray,.int .u32 9,.int .u32 4]) (V:=fun x:Option Addr × Nat=>.tuple #[.slice x.1 (abR alP alK 9 4).length x.2,I6 (abI alP alK 9 4)]) Qre rfl rfl (Ql2 _ alP none 0 none 0 (some ⟨b1,0,none⟩) 1 alK Qh3 9 4 ⟨⟨by decide,by decide⟩,by decide⟩ hsortE hsortU QgX (by decide) (by decide) (by decide) (Rd.nil _ 7) (Rd.nil _ 2) (hs.rd 0 rfl)) hs fun x14 w13 hs _=>?_)))))))))))))))))))))))))))))))))))))))))
 replace hs:Own w no w13 [row (.slice (some ⟨b1,0,none⟩) 1 1) ([QpA].map oc) 98 23,blk b3 (((vc vzero)++[(.slice none 0 0:Value),(.slice none 0 0:Value) ])++[(.slice (some ⟨b1,0,none⟩) 1 1:Value) ]++(vc alK)) 43,row (.slice x7.1 (((QaG alP alK 3).lines).length) x7.2) (((QaG alP alK 3).lines).map lc) 127 2,blk b8 [I7 ((QaG alP alK 3).cart),.slice x7.1 (((QaG alP alK 3).lines).length) x7.2,.bool ((QaG alP alK 3).out),.int .u32 ((QaG alP alK 3).tick)] 49,row (.slice x12.1 ((QcN alP vzero alK).length) x12.2) ((QcN alP vzero alK).map dfc) 83 5,row (.slice x14.1 ((abR alP alK 9 4).length) x14.2) ((abR alP alK 9 4).map (ic .u16)) 32 1]:=hs
 refine Qaa (Qac (V:=.tuple #[.slice x14.1 ((abR alP alK 9 4).length) x14.2,I6 (abI alP alK 9 4)]) rfl (Qaa (Qax (V:=.slice x14.1 ((abR alP alK 9 4).length) x14.2) rfl rfl (Qaa (Qax (V:=I6 (abI alP alK 9 4)) rfl rfl (Qaa (Qad (V:=.slice x14.1 ((abR alP alK 9 4).length) x14.2) rfl (Qaa (Qad (V:=I6 (abI alP alK 9 4)) rfl (Qae (Qag (Qab (Qaa (QaO (cs:=((vc vzero)++[(.slice none 0 0:Value),(.slice none 0 0:Value) ])++[(.slice (some ⟨b1,0,none⟩) 1 1:Value) ]++(vc alK)) QcV hs 1 rfl rfl rfl (Qaa (QaX (V:=.agg (vc (vset vzero 0 2)).toArray) (V':=.agg (vc Qdl).toArray) (QbI (vs:=[(0,.int .u32 2)]) (cs:=vc (vset vzero 0 2)) Qix (rfl) rfl ⟨rfl,rfl⟩) rfl (Qaa (Qbm (α:=Option Addr × Nat) (vs:=[.agg (((vc vzero)++[(.slice none 0 0:Value),(.slice none 0 0:Value) ])++[(.slice (some ⟨b1,0,none⟩) 1 1:Value) ]++(vc alK)).toArray,.agg (vc Qdl).toArray,I7 3]) (V:=fun x=>.tuple #[.agg #[I7 ((QaG alP Qdl 3).cart),.slice x.1 (((QaG alP Qdl 3).lines).length) x.2,.bool ((QaG alP Qdl 3).out),.int .u32 ((QaG alP Qdl 3).tick)],I6 (Qbp alP Qdl)]) (Lo:=fun x=>[row (.slice x.1 ((QaG alP Qdl 3).lines).length x.2) (((QaG alP Qdl 3).lines).map lc) 127 2]) (F:=fun _ _=>True) Qqg rfl rfl ?hc hs fun x16 w15 hs _=>?_))))))))))))))))))
 case hc=>exact (Qg8 _ alP none 0 none 0 (some ⟨b1,0,none⟩) 1 Qdl QqP 3 hsortE hsortU QgX (by decide) (by decide) (by decide) (Rd.nil _ 7) (Rd.nil _ 2) (hs.rd 0 rfl))
 refine Qaa (Qac (V:=.tuple #[.agg #[I7 ((QaG alP Qdl 3).cart),.slice x16.1 (((QaG alP Qdl 3).lines).length) x16.2,.bool ((QaG alP Qdl 3).out),.int .u32 ((QaG alP Qdl 3).tick)],I6 (Qbp alP Qdl)]) rfl (Qaa (Qax (V:=.agg #[I7 ((QaG alP Qdl 3).cart),.slice x16.1 (((QaG alP Qdl 3).lines).length) x16.2,.bool ((QaG alP Qdl 3).out),.int .u32 ((QaG alP Qdl 3).tick)]) rfl rfl (Qaa (Qax (V:=I6 (Qbp alP Qdl)) rfl rfl (Qaa (QaL (cs:=[I7 0,.slice none 0 0,.bool false,.int .u32 0]) QiW rfl hs fun b17 w18 hs=>(Qaa (QcG (V:=.agg #[I7 ((QaG alP Qdl 3).cart),.slice x16.1 (((QaG alP Qdl 3).lines).length) x16.2,.bool ((QaG alP Qdl 3).out),.int .u32 ((QaG alP Qdl 3).tick)]) (vs:=[I7 ((QaG alP Qdl 3).cart),.slice x16.1 (((QaG alP Qdl 3).lines).length) x16.2,.bool ((QaG alP Qdl 3).out),.int .u32 ((QaG alP Qdl 3).tick)]) (cs':=[I7 ((QaG alP Qdl 3).cart),.slice x16.1 (((QaG alP Qdl 3).lines).length) x16.2,.bool ((QaG alP Qdl 3).out),.int .u32 ((QaG alP Qdl 3).tick)]) Qeu.1 hs 7 rfl rfl rfl rfl rfl (QQ8 rfl) (Qat rfl (Qat rfl (Qat rfl (Qat rfl Qa1)))) (Qaz rfl) fun w19 hs=>(Qaa (Qad (V:=I6 (Qbp alP Qdl)) rfl (Qae (Qag (Qab (Qaa (QaO (cs:=((vc vzero)++[(.slice none 0 0:Value),(.slice none 0 0:Value) ])++[(.slice (some ⟨b1,0,none⟩) 1 1:Value) ]++(vc alK)) QcV hs 1 rfl rfl rfl (Qaa (QaX (V:=.agg (vc (vset vzero 0 1)).toArray) (V':=.agg (vc alK).toArray) (QbI (vs:=[(0,.int .u32 1)]) (cs:=vc (vset vzero 0 1)) Qix (rfl) rfl ⟨rfl,rfl⟩) rfl (Qaa (Qbm (α:=(Option Addr × Nat) × (Option Addr × Nat)) (vs:=[.agg (((vc vzero)++[(.slice none 0 0:Value),(.slice none 0 0:Value) ])++[(.slice (some ⟨b1,0,none⟩) 1 1:Value) ]++(vc alK)).toArray,.agg (vc alK).toArray]) (V:=fun x:(Option Addr × Nat) × (Option Addr × Nat)=>.tuple #[.agg (vc (Qah alP alK).known++[(.slice x.1.1 ((Qah alP alK).ents).length x.1.2:Value),(.slice x.2.1 ((Qah alP alK).ticks).length x.2.2:Value)]).toArray,I6 (Qbp alP alK)]) (Lo:=fun x=>[row (.slice x.1.1 ((Qah alP alK).ents).length x.1.2) (((Qah alP alK).ents).map cec) 106 7,row (.slice x.2.1 ((Qah alP alK).ticks).length x.2.2) (((Qah alP alK).ticks).map lsc) 102 2]) (F:=fun _ _=>True) Qlv rfl rfl ?hc hs fun x21 w20 hs _=>?_))))))))))))))))))))
 case hc=>exact (QdW _ alP none 0 none 0 (some ⟨b1,0,none⟩) 1 alK Qh3 hsortE hsortU QgX (by decide) (by decide) (by decide) (Rd.nil _ 7) (Rd.nil _ 2) (hs.rd 0 rfl))
 replace hs:Own w no w20 [row (.slice (some ⟨b1,0,none⟩) 1 1) ([QpA].map oc) 98 23,blk b3 (((vc vzero)++[(.slice none 0 0:Value),(.slice none 0 0:Value) ])++[(.slice (some ⟨b1,0,none⟩) 1 1:Value) ]++(vc alK)) 43,row (.slice x7.1 (((QaG alP alK 3).lines).length) x7.2) (((QaG alP alK 3).lines).map lc) 127 2,blk b8 [I7 ((QaG alP alK 3).cart),.slice x7.1 (((QaG alP alK 3).lines).length) x7.2,.bool ((QaG alP alK 3).out),.int .u32 ((QaG alP alK 3).tick)] 49,row (.slice x12.1 ((QcN alP vzero alK).length) x12.2) ((QcN alP vzero alK).map dfc) 83 5,row (.slice x14.1 ((abR alP alK 9 4).length) x14.2) ((abR alP alK 9 4).map (ic .u16)) 32 1,row (.slice x16.1 (((QaG alP Qdl 3).lines).length) x16.2) (((QaG alP Qdl 3).lines).map lc) 127 2,blk b17 [I7 ((QaG alP Qdl 3).cart),.slice x16.1 (((QaG alP Qdl 3).lines).length) x16.2,.bool ((QaG alP Qdl 3).out),.int .u32 ((QaG alP Qdl 3).tick)] 49,row (.slice x21.1.1 (((Qah alP alK).ents).length) x21.1.2) (((Qah alP alK).ents).map cec) 106 7,row (.slice x21.2.1 (((Qah alP alK).ticks).length) x21.2.2) (((Qah alP alK).ticks).map lsc) 102 2]:=hs
 refine Qaa (Qac (V:=.tuple #[.agg ((vc ((Qah alP alK).known))++[(.slice x21.1.1 (((Qah alP alK).ents).length) x21.1.2:Value),(.slice x21.2.1 (((Qah alP alK).ticks).length) x21.2.2:Value) ]).toArray,I6 (Qbp alP alK)]) rfl (Qaa (Qax (V:=.agg ((vc ((Qah alP alK).known))++[(.slice x21.1.1 (((Qah alP alK).ents).length) x21.1.2:Value),(.slice x21.2.1 (((Qah alP alK).ticks).length) x21.2.2:Value) ]).toArray) rfl rfl (Qaa (Qax (V:=I6 (Qbp alP alK)) rfl rfl (Qaa (QaL (cs:=(vc vzero)++[(.slice none 0 0:Value),(.slice none 0 0:Value) ]) Qfr rfl hs fun b22 w23 hs=>(Qaa (QcG (V:=.agg ((vc ((Qah alP alK).known))++[(.slice x21.1.1 (((Qah alP alK).ents).length) x21.1.2:Value),(.slice x21.2.1 (((Qah alP alK).ticks).length) x21.2.2:Value) ]).toArray) (vs:=(vc ((Qah alP alK).known))++[(.slice x21.1.1 (((Qah alP alK).ents).length) x21.1.2:Value),(.slice x21.2.1 (((Qah alP alK).ticks).length) x21.2.2:Value) ]) (cs':=(vc ((Qah alP alK).known))++[(.slice x21.1.1 (((Qah alP alK).ents).length) x21.1.2:Value),(.slice x21.2.1 (((Qah alP alK).ticks).length) x21.2.2:Value) ]) QbS.1 hs 10 rfl rfl rfl rfl rfl (QQ8 rfl) (Qbh (QbQ _) (Qat rfl (Qat rfl Qa1))) (Qaz rfl) fun w24 hs=>(Qaa (Qad (V:=I6 (Qbp alP alK)) rfl (Qae (Qag ?_)))))))))))))
 have hdl:(QcN alP vzero alK).length=1:=by rw [Qra];rfl
 refine Qab (Qaa (Qac (V:=I6 (Qbp alP alK)) rfl (Qaa (QaX (V:=.bool (decide (Qbp alP alK=0))) (V':=.bool true) (QaW rfl rfl ⟨rfl,rfl⟩) (congrArg Value.bool (QQ3 Qe2)) (Qaa (Qac (V:=.bool true) rfl (Qcn rfl (Qaf Qeo rfl (Qcn rfl (QaP (V:=.slice x7.1 (((QaG alP alK 3).lines).length) x7.2) Qi9 hs 3 rfl rfl rfl (Qcn rfl (Qa0 (n:=((QaG alP alK 3).lines).length) Qdx (hs.rd 2 rfl) (by simp) rfl (Qcn rfl (QaX (V:=.bool (decide (((((QaG alP alK 3).lines).length:Nat):Int)=1))) (V':=.bool true) (QaW rfl rfl ⟨rfl,rfl⟩) (congrArg Value.bool (by rw [QqQ];rfl)) (Qaa (Qcp (V:=.bool true) rfl rfl (Qaa (Qac (V:=.bool true) rfl (Qcn rfl (Qac (V:=I6 (Qc6 alP vzero alK)) rfl (Qcn rfl (QaX (V:=.bool (decide (Qc6 alP vzero alK=0))) (V':=.bool true) (QaW rfl rfl ⟨rfl,rfl⟩) (congrArg Value.bool (QQ3 Qt9)) (Qaa (Qcp (V:=.bool true) rfl rfl (Qaa (Qac (V:=.bool true) rfl (Qcn rfl (Qac (V:=.slice x12.1 ((QcN alP vzero alK).length) x12.2) rfl (Qcn rfl (Qa0 (n:=(QcN alP vzero alK).length) Qse (hs.rd 4 rfl) (by simp) rfl (Qcn rfl (QaX (V:=.bool (decide ((((QcN alP vzero alK).length:Nat):Int)=1))) (V':=.bool true) (QaW rfl rfl ⟨rfl,rfl⟩) (congrArg Value.bool (by rw [Qra];rfl)) (Qaa (Qcp (V:=.bool true) rfl rfl (Qaa (Qac (V:=.bool true) rfl (Qcn rfl (Qac (V:=.slice x12.1 ((QcN alP vzero alK).length) x12.2) rfl (Qcn rfl (Qaw Qse QiU.1 (hs.rd 4 rfl) rfl rfl (by decide) (by rw [QQ6];omega) (Qcn rfl (Qbc (j:=0) (vs:=dfc (gd (QcN alP vzero alK) 0)) 0 QiU (hs.rd 4 rfl) (Qa9 (by omega)) rfl rfl rfl (by omega) (Qcn rfl (QbI (vs:=[(0,I7 3),(1,I7 4),(4,.int .u32 2)]) (cs:=dfc (⟨3,4,false,0,2⟩:Dif)) Qrf (rfl) rfl (Qcn rfl (QaX (V:=.bool (decide (gd (QcN alP vzero alK) 0=(⟨3,4,false,0,2⟩:Dif)))) (V':=.bool true) (Qqi (xs:=dfc (gd (QcN alP vzero alK) 0)) (ys:=dfc (⟨3,4,false,0,2⟩:Dif)) Tryz.eqGuardType83 (QuC (gd (QcN alP vzero alK) 0) (⟨3,4,false,0,2⟩:Dif)) rfl rfl rfl ⟨rfl,rfl⟩) (congrArg Value.bool (by rw [Qra];rfl)) (Qaa (Qcp (V:=.bool true) rfl rfl (Qaa (Qac (V:=.bool true) rfl (Qcn rfl (Qac (V:=I6 (abI alP alK 9 4)) rfl (Qcn rfl (QaX (V:=.bool (decide (abI alP alK 9 4=0))) (V':=.bool true) (QaW rfl rfl ⟨rfl,rfl⟩) (congrArg Value.bool (QQ3 QtG)) (Qaa (Qcp (V:=.bool true) rfl rfl (Qaa (Qac (V:=.bool true) rfl (Qcn rfl (Qac (V:=.slice x14.1 ((abR alP alK 9 4).length) x14.2) rfl (Qcn rfl (Qa0 (n:=(abR alP alK 9 4).length) QaK (hs.rd 5 rfl) (by simp) rfl (Qcn rfl (QaX (V:=.bool (decide ((((abR alP alK 9 4).length:Nat):Int)=1))) (V':=.bool true) (QaW rfl rfl ⟨rfl,rfl⟩) (congrArg Value.bool (by rw [Qut];rfl)) (Qaa (Qcp (V:=.bool true) rfl rfl (Qaa (Qac (V:=.bool true) rfl (Qcn rfl (Qac (V:=I6 (Qbp alP Qdl)) rfl (Qcn rfl (QaX (V:=.bool (decide (Qbp alP Qdl=11))) (V':=.bool true) (QaW rfl rfl ⟨rfl,rfl⟩) (congrArg Value.bool (QQ3 Qqx)) (Qaa (Qcp (V:=.bool true) rfl rfl (Qaa (Qac (V:=.bool true) rfl (Qcn rfl (Qac (V:=I6 (Qbp alP alK)) rfl (Qcn rfl (QaX (V:=.bool (decide (Qbp alP alK=0))) (V':=.bool true) (QaW rfl rfl ⟨rfl,rfl⟩) (congrArg Value.bool (QQ3 Qe2)) ?_))))))))))))))))))))))))))))))))))))))))))))))))))))))))))))))))))))))))))))))))
 refine Qaa (Qcp (V:=.bool true) rfl rfl (Qaa (Qac (V:=.bool true) rfl (Qcn rfl (Qaf Qc4 rfl (Qcn rfl (QaP (V:=.slice x21.1.1 (((Qah alP alK).ents).length) x21.1.2) Qgf hs 10 rfl rfl rfl (Qcn rfl (Qa0 (n:=((Qah alP alK).ents).length) QbC (hs.rd 8 rfl) (by simp) rfl (Qcn rfl (QaX (V:=.bool (decide (((((Qah alP alK).ents).length:Nat):Int)=1))) (V':=.bool true) (QaW rfl rfl ⟨rfl,rfl⟩) (congrArg Value.bool (by rw [QrT];rfl)) (Qaa (Qcp (V:=.bool true) rfl rfl (Qaa (Qac (V:=.bool true) rfl (Qcn rfl (QaO (cs:=((vc vzero)++[(.slice none 0 0:Value),(.slice none 0 0:Value) ])++[(.slice (some ⟨b1,0,none⟩) 1 1:Value) ]++(vc alK)) QcV hs 1 rfl rfl rfl (Qcn rfl (QaX (V:=.agg (vc (vset (vset vzero 0 0) 1 1)).toArray) (V':=.agg (vc Qrt).toArray) (QbI (vs:=[(0,.int .u32 0),(1,.int .u32 1)]) (cs:=vc (vset (vset vzero 0 0) 1 1)) Qix (rfl) rfl ⟨rfl,rfl⟩) rfl (Qcn rfl (Qas (vs:=[.agg (((vc vzero)++[(.slice none 0 0:Value),(.slice none 0 0:Value) ])++[(.slice (some ⟨b1,0,none⟩) 1 1:Value) ]++(vc alK)).toArray,.agg (vc Qrt).toArray]) (V:=I6 (Qbp alP Qrt)) Qsa rfl rfl ?hc hs fun w25 hs=>?_)))))))))))))))))))))
 case hc=>exact (Qk9 _ alP none 0 none 0 (some ⟨b1,0,none⟩) 1 Qrt Qqz QgX (by decide) (by decide) (by decide) (Rd.nil _ 7) (Rd.nil _ 2) (hs.rd 0 rfl))
 refine Qcn rfl (QaX (V:=.bool (decide (Qbp alP Qrt=11))) (V':=.bool true) (QaW rfl rfl ⟨rfl,rfl⟩) (congrArg Value.bool (QQ3 Qqv)) (Qaa (Qcp (V:=.bool true) rfl rfl (Qaa (Qad (V:=.bool true) rfl (Qae (Qav ?_)))))))
 refine ⟨_,Qaq (V:=.bool true) Tryz.results10 rfl,(Zr hs ?_)⟩
 rfl
end Tt
end Go.Proofs
namespace Go.Proofs
open Go Go.Vx Go.RowKit
namespace Tt
theorem Qm8 (w:World) (S:Nat->Prop) (a:Option Addr) (c:Nat) (l:List Lst) (i:Nat) (hi:i<=l.length) (x:Lst) (b:Option Addr) (c2:Nat) (hv:Rd w (.slice b 1 c2) 2 (List.map lsc [x])) (hpl:QdX w (.slice b 1 c2)) (hnS:¬S (bkS (.slice b 1 c2))) (hvb:bkS (.slice b 1 c2)<w.heap.size) (hN:(l.length+1)*9<=140737488355328) (hR:(row (.slice a l.length c) (l.map lsc) 102 2).holds w S) (hlt:∀ b,S b->b<w.heap.size):Calls Tryz.prog 156 #[.slice a l.length c,.int .i64 (i:Int),.slice b 1 c2] w (fun e w'=>∃ x':Option Addr × Nat,e = .returned (.slice x'.1 (Qdm l i x).length x'.2)/\Own w S w' [row (.slice x'.1 (Qdm l i x).length x'.2) ((Qdm l i x).map lsc) 102 2]/\True):=by
 refine Qai (n:=95) Tryz.func156 rfl Tryz.ntmps156 rfl ?_
 have hs:=Own.lent hR hlt
 have hn:=(hs.rd 0 rfl).sml
 have hlc:=(hs.rd 0 rfl).roomM
 have hvo:∀ (w1:World) (L1:List Res),Own w S w1 L1->Rd w1 (.slice b 1 c2) 2 (List.map lsc [x]):=fun w1 L1 h=>hv.own h hnS
 refine Qag (Qab (Qaa (Qad (V:=.slice none 0 0) rfl (Qae (Qag (Qab (Qaa (Qac (V:=.slice a l.length c) rfl (Qaa (Qac (V:=I6 (i:Int)) rfl (Qaa (Qk2 (l:=i) (h:=l.length) (m:=c) (n':=(l.drop i).length) QdG QbN.1 (hs.rd 0 rfl) rfl (.inr ⟨_,_,rfl,rfl⟩) (.inl ⟨rfl,rfl⟩) (.inl ⟨rfl,rfl⟩) (by omega) (by omega) (Nat.le_trans (show l.length<=l.length by omega) (Rd.roomM (hs.rd 0 rfl))) (Nat.le_refl _) (by simp only [List.length_take,List.length_drop]<;>omega) ?_))))))))))))
 refine Qae (Qag (Qab (Qaa (Qac (V:=.slice b 1 c2) rfl (Qaa (QaX (V:=I6 (1:Int)) (V':=I6 1) (Qa0 (n:=1) Qea (hvo _ _ hs) (by simp) rfl ⟨rfl,rfl⟩) rfl (Qaa (Qad (V:=I6 1) rfl (Qae (Qag (Qag (Qab (Qaa (Qac (V:=I6 1) rfl (Qaa (QaX (V:=.bool (decide ((1:Int)=0))) (V':=.bool false) (QaW rfl rfl ⟨rfl,rfl⟩) (congrArg Value.bool (by decide)) (Qae (Qb1 rfl ?_))))))))))))))))))
 refine Qap (Qag (Qab (Qaa (Qac (V:=.slice a l.length c) rfl (Qaa (Qa0 (n:=l.length) Qea (hs.rd 0 rfl) (by simp) rfl (Qaa (Qad (V:=I6 ((l.length:Nat):Int)) rfl (Qae (Qag (Qag (Qab (Qaa (Qac (V:=I6 (i:Int)) rfl (Qaa (Qac (V:=I6 ((l.length:Nat):Int)) rfl (Qaa (QaW rfl rfl (Qae (Qam (t:=decide ((i:Int)=((l.length:Nat):Int))) rfl (fun c1=>?_) (fun c1=>?_)))))))))))))))))))))
 ·
  replace c1:=QQ1 c1
  refine Qag (Qab (Qaa (Qac (V:=.slice a l.length c) rfl (Qaa (Qac (V:=.slice b 1 c2) rfl (Qaa (Qdb (ls':=(l++[x]).map lsc) (n:=(l++[x]).length) Qgs hs 0 rfl rfl rfl (hvo _ _ hs) (QaV Qcd _) (by simp only [QQ6,QQ7,List.length_cons,List.length_nil];omega) (by simp) (by simp) fun a2 c2 w3 hs=>(Qaa (Qad (V:=.slice a2 ((l++[x]).length) c2) rfl (Qae (Qav ?_)))))))))))
  refine ⟨_,Qaq (V:=.slice a2 ((l++[x]).length) c2) Tryz.results156 rfl,?_⟩
  have hX:l++[x]=Qdm l i x:=QjM (by omega)
  rw [hX] at hs
  exact ⟨(a2,c2),by rw [← hX],hs.only 0 rfl,trivial⟩
 replace c1:=QQ2 c1
 refine Qap (Qag (Qag (Qab (Qaa (Qac (V:=I6 ((l.length:Nat):Int)) rfl (Qaa (Qac (V:=I6 1) rfl (Qaa (QaD (a:=((l.length:Nat):Int)) (b:=1) (c:=((l.length+1:Nat):Int)) rfl rfl (Qaj (by omega) (by omega)) (Qaa (Qac (V:=.slice a l.length c) rfl (Qaa (Qpu Qea rfl (Qaa (QbU rfl rfl (Qae (Qam (t:=decide ((c:Int)<((l.length+1:Nat):Int))) rfl (fun c4=>?_) (fun c4=>?_))))))))))))))))))
 ·
  replace c4:=QQ1 c4
  refine Qag (Qab (Qaa (Qac (V:=.slice a l.length c) rfl (Qaa (Qac (V:=I6 (i:Int)) rfl (Qaa (QdI (l:=0) (h:=i) (n':=i) QdG QbN.1 (by omega) rfl (.inl ⟨rfl,rfl⟩) (.inr ⟨_,_,rfl,rfl⟩) (by omega) (by omega) (by omega) (Qaa (Qac (V:=I6 ((l.length:Nat):Int)) rfl (Qaa (Qac (V:=I6 1) rfl (Qaa (QaD (a:=((l.length:Nat):Int)) (b:=1) (c:=((l.length+1:Nat):Int)) rfl rfl (Qaj (by omega) (by omega)) (Qaa (Qac (V:=I6 (i:Int)) rfl (Qaa (Qa3 (a:=((l.length+1:Nat):Int)) (b:=(i:Int)) (c:=(((l.length+1)-i:Nat):Int)) rfl rfl (Qaj (by omega) (by omega)) (Qaa (QpQ (zl:=lsc (⟨0,0⟩:Lst)) (ls':=(l.take i++List.replicate ((l.length+1)-i) (⟨0,0⟩:Lst)).map lsc) Qgs Qsp (.inl QjR) hs (hs.rd 0 rfl) rfl rfl (by rw [QQ6];omega) (by rw [QQ6];omega) (by omega) (by omega) (QaV Qcd _) (Qcd _) rfl (by omega) (by simp only [List.map_append,List.map_take,List.map_replicate]) (l.take i++List.replicate ((l.length+1)-i) (⟨0,0⟩:Lst)).length (by rw [QQ6]) fun a5 c5 w6 hs=>(Qaa (Qad (V:=.slice a5 ((l.take i++List.replicate ((l.length+1)-i) (⟨0,0⟩:Lst)).length) c5) rfl (Qae (Qag ?_)))))))))))))))))))))))
  have hq9:(l.take i++List.replicate ((l.length+1)-i) (⟨0,0⟩:Lst)).length=l.length+1:=by simp only [QQ7,List.length_take,List.length_replicate];omega
  have hr9:=(hs.rd 1 rfl).roomM
  refine Qab (Qaa (Qac (V:=.slice a5 ((l.take i++List.replicate ((l.length+1)-i) (⟨0,0⟩:Lst)).length) c5) rfl (Qaa (Qac (V:=I6 (i:Int)) rfl (Qaa (QdI (l:=i) (h:=(l.take i++List.replicate ((l.length+1)-i) (⟨0,0⟩:Lst)).length) (n':=((l.take i++List.replicate ((l.length+1)-i) (⟨0,0⟩:Lst)).length)-i) QdG QbN.1 (by omega) rfl (.inr ⟨_,_,rfl,rfl⟩) (.inl ⟨rfl,rfl⟩) (by omega) (by omega) (by omega) (Qaa (Qac (V:=.slice b 1 c2) rfl (Qaa (Qc7 (lo:=i) (ms:=[x].map lsc) (ls':=((l.take i++List.replicate ((l.length+1)-i) (⟨0,0⟩:Lst)).take i++[x]++(l.take i++List.replicate ((l.length+1)-i) (⟨0,0⟩:Lst)).drop (i+[x].length)).map lsc) (n':=((l.take i++List.replicate ((l.length+1)-i) (⟨0,0⟩:Lst)).take i++[x]++(l.take i++List.replicate ((l.length+1)-i) (⟨0,0⟩:Lst)).drop (i+[x].length)).length) Qgs hs 1 rfl rfl rfl (by simp only [QQ6,List.length_drop,List.length_take,List.length_cons,List.length_nil,QQ7,List.length_replicate];omega) (Rd.srcs (hvo _ _ hs)) (Qbj (enc:=lsc) (fun _=>rfl) _) (QaV Qcd _) (by simp only [QQ6,List.length_drop,List.length_take,List.length_cons,List.length_nil,QQ7,List.length_replicate];omega) (by simp only [QQ6,List.length_drop,List.length_take,List.length_cons,List.length_nil,QQ7,List.length_replicate];omega) (by simp only [List.map_append,List.map_take,List.map_drop,List.map_cons,List.map_nil,QQ6,List.length_drop,List.length_take,List.length_cons,List.length_nil]) (by rw [QQ6]) fun w7 hs=>(Qae (Qag (QaH HM [some 46,some 47,some 48,some 49,some 50,some 51,some 52,some 53,some 54] [] [0,0,0,6,15,0,0,96,255] [pv (.slice a5 ((l.take i++List.replicate ((l.length+1)-i) (⟨0,0⟩:Lst)).length) c5),pv (I6 (i:Int)),pv (I6 1),pv (I6 ((i+1:Nat):Int)),pv (.slice (sla a5 (i+1) c5 2) (((l.take i++List.replicate ((l.length+1)-i) (⟨0,0⟩:Lst)).length)-(i+1)) (c5-(i+1))),pv (.slice a l.length c),pv (I6 (i:Int)),pv (.slice (sla a i c 2) ((l.drop i).length) (c-i)),pv (I6 (((List.map lsc (l.drop i)).length:Nat):Int))] (fun D J=>[row (.slice a l.length c) (l.map lsc) 102 2,cond (D 8) (row (.slice a5 ((((l.take i++List.replicate ((l.length+1)-i) (⟨0,0⟩:Lst)).take i++[x]++(l.take i++List.replicate ((l.length+1)-i) (⟨0,0⟩:Lst)).drop (i+[x].length)).take (i+1)++l.drop i++((l.take i++List.replicate ((l.length+1)-i) (⟨0,0⟩:Lst)).take i++[x]++(l.take i++List.replicate ((l.length+1)-i) (⟨0,0⟩:Lst)).drop (i+[x].length)).drop (i+1+(l.drop i).length)).length) c5) ((((l.take i++List.replicate ((l.length+1)-i) (⟨0,0⟩:Lst)).take i++[x]++(l.take i++List.replicate ((l.length+1)-i) (⟨0,0⟩:Lst)).drop (i+[x].length)).take (i+1)++l.drop i++((l.take i++List.replicate ((l.length+1)-i) (⟨0,0⟩:Lst)).take i++[x]++(l.take i++List.replicate ((l.length+1)-i) (⟨0,0⟩:Lst)).drop (i+[x].length)).drop (i+1+(l.drop i).length)).map lsc) 102 2) (row (.slice a5 (((l.take i++List.replicate ((l.length+1)-i) (⟨0,0⟩:Lst)).take i++[x]++(l.take i++List.replicate ((l.length+1)-i) (⟨0,0⟩:Lst)).drop (i+[x].length)).length) c5) (((l.take i++List.replicate ((l.length+1)-i) (⟨0,0⟩:Lst)).take i++[x]++(l.take i++List.replicate ((l.length+1)-i) (⟨0,0⟩:Lst)).drop (i+[x].length)).map lsc) 102 2)]) [] (by kernel_rfl) hs ⟨?_,?_,?_,?_,?_,?_,?_,?_,?_,trivial⟩ ?_)))))))))))))
  ·exact oa [] fun D J w hs=>Qac (V:=.slice a5 ((l.take i++List.replicate ((l.length+1)-i) (⟨0,0⟩:Lst)).length) c5) rfl (Zz hs)
  ·exact oa [] fun D J w hs=>Qac (V:=.int .i64 (i:Int)) rfl (Zz hs)
  ·exact oa [] fun D J w hs=>Qac (V:=.int .i64 1) rfl (Zz hs)
  ·exact oa [1,2] fun D J w hs=>QaD (a:=(i:Int)) (b:=1) (c:=((i+1:Nat):Int)) rfl rfl (Qaj (by omega) (by omega)) (Zz hs)
  ·exact oa [0,3] fun D J w hs=>QdI (l:=i+1) (h:=(l.take i++List.replicate ((l.length+1)-i) (⟨0,0⟩:Lst)).length) (n':=((l.take i++List.replicate ((l.length+1)-i) (⟨0,0⟩:Lst)).length)-(i+1)) QdG QbN.1 (by omega) rfl (.inr ⟨_,_,rfl,rfl⟩) (.inl ⟨rfl,rfl⟩) (by omega) (by omega) (by omega) (Zz hs)
  ·exact oa [] fun D J w hs=>Qac (V:=.slice a l.length c) rfl (Zz hs)
  ·exact oa [] fun D J w hs=>Qac (V:=.int .i64 (i:Int)) rfl (Zz hs)
  ·exact oa [5,6] fun D J w hs=>Qk2 (l:=i) (h:=l.length) (m:=c) (n':=(l.drop i).length) QdG QbN.1 (hs.rd 0 rfl) rfl (.inr ⟨_,_,rfl,rfl⟩) (.inl ⟨rfl,rfl⟩) (.inl ⟨rfl,rfl⟩) (by omega) (by omega) (Nat.le_trans (show l.length<=l.length by omega) (Rd.roomM (hs.rd 0 rfl))) (Nat.le_refl _) (by simp only [List.length_take,List.length_drop]<;>omega) (Zz hs)
  ·exact oa [4,7] fun D J w hs=>Qc7 (lo:=i+1) (ms:=(l.drop i).map lsc) (ls':=(((l.take i++List.replicate ((l.length+1)-i) (⟨0,0⟩:Lst)).take i++[x]++(l.take i++List.replicate ((l.length+1)-i) (⟨0,0⟩:Lst)).drop (i+[x].length)).take (i+1)++l.drop i++((l.take i++List.replicate ((l.length+1)-i) (⟨0,0⟩:Lst)).take i++[x]++(l.take i++List.replicate ((l.length+1)-i) (⟨0,0⟩:Lst)).drop (i+[x].length)).drop (i+1+(l.drop i).length)).map lsc) (n':=(((l.take i++List.replicate ((l.length+1)-i) (⟨0,0⟩:Lst)).take i++[x]++(l.take i++List.replicate ((l.length+1)-i) (⟨0,0⟩:Lst)).drop (i+[x].length)).take (i+1)++l.drop i++((l.take i++List.replicate ((l.length+1)-i) (⟨0,0⟩:Lst)).take i++[x]++(l.take i++List.replicate ((l.length+1)-i) (⟨0,0⟩:Lst)).drop (i+[x].length)).drop (i+1+(l.drop i).length)).length) Qgs hs 1 rfl rfl rfl (by simp only [QQ6,List.length_drop,List.length_take,List.length_cons,List.length_nil,QQ7,List.length_replicate];omega) (Rd.srcs (Rd.dropM (hs.rd 0 rfl) i hi _ rfl)) (Qbj (enc:=lsc) (fun _=>rfl) _) (QaV Qcd _) (by simp only [QQ6,List.length_drop,List.length_take,List.length_cons,List.length_nil,QQ7,List.length_replicate];omega) (by simp only [QQ6,List.length_drop,List.length_take,List.length_cons,List.length_nil,QQ7,List.length_replicate];omega) (by simp only [List.map_append,List.map_take,List.map_drop,List.map_cons,List.map_nil,QQ6,List.length_drop,List.length_take,List.length_cons,List.length_nil]) (by rw [QQ6]) fun _ hs=>⟨rfl,hs⟩
  rintro J1 w9 J2 hJ hs
  replace hJ:J2=mix (sq 46 9) J1 _:=hJ
  replace hs:Own w S w9 [row (.slice a l.length c) (l.map lsc) 102 2,row (.slice a5 ((((l.take i++List.replicate ((l.length+1)-i) (⟨0,0⟩:Lst)).take i++[x]++(l.take i++List.replicate ((l.length+1)-i) (⟨0,0⟩:Lst)).drop (i+[x].length)).take (i+1)++l.drop i++((l.take i++List.replicate ((l.length+1)-i) (⟨0,0⟩:Lst)).take i++[x]++(l.take i++List.replicate ((l.length+1)-i) (⟨0,0⟩:Lst)).drop (i+[x].length)).drop (i+1+(l.drop i).length)).length) c5) ((((l.take i++List.replicate ((l.length+1)-i) (⟨0,0⟩:Lst)).take i++[x]++(l.take i++List.replicate ((l.length+1)-i) (⟨0,0⟩:Lst)).drop (i+[x].length)).take (i+1)++l.drop i++((l.take i++List.replicate ((l.length+1)-i) (⟨0,0⟩:Lst)).take i++[x]++(l.take i++List.replicate ((l.length+1)-i) (⟨0,0⟩:Lst)).drop (i+[x].length)).drop (i+1+(l.drop i).length)).map lsc) 102 2]:=hs
  subst hJ
  refine Qag (Qab (Qaa (Qac (V:=.slice a5 ((l.take i++List.replicate ((l.length+1)-i) (⟨0,0⟩:Lst)).length) c5) rfl (Qaa (Qad (V:=.slice a5 ((l.take i++List.replicate ((l.length+1)-i) (⟨0,0⟩:Lst)).length) c5) rfl (Qae (Qav ?_)))))))
  refine ⟨_,Qaq (V:=.slice a5 ((l.take i++List.replicate ((l.length+1)-i) (⟨0,0⟩:Lst)).length) c5) Tryz.results156 rfl,?_⟩
  have hX:((l.take i++List.replicate ((l.length+1)-i) (⟨0,0⟩:Lst)).take i++[x]++(l.take i++List.replicate ((l.length+1)-i) (⟨0,0⟩:Lst)).drop (i+[x].length)).take (i+1)++l.drop i++((l.take i++List.replicate ((l.length+1)-i) (⟨0,0⟩:Lst)).take i++[x]++(l.take i++List.replicate ((l.length+1)-i) (⟨0,0⟩:Lst)).drop (i+[x].length)).drop (i+1+(l.drop i).length)=Qdm l i x:=Qke hi
  rw [hX] at hs
  exact ⟨(a5,c5),by rw [hq9,QfG hi],hs.only 1 rfl,trivial⟩
 replace c4:=QQ2 c4
 refine Qap (Qag (Qab (Qaa (Qac (V:=.slice a l.length c) rfl (Qaa (Qac (V:=I6 ((l.length:Nat):Int)) rfl (Qaa (Qac (V:=I6 1) rfl (Qaa (QaD (a:=((l.length:Nat):Int)) (b:=1) (c:=((l.length+1:Nat):Int)) rfl rfl (Qaj (by omega) (by omega)) (Qaa (QaX (V:=.slice (sla a 0 c 2) (l.length+1) (c-0)) (V':=.slice a (l.length+1) c) (QdI (l:=0) (h:=l.length+1) (n':=l.length+1) QdG QbN.1 (by omega) rfl (.inl ⟨rfl,rfl⟩) (.inr ⟨_,_,rfl,rfl⟩) (by omega) (by omega) (by omega) ⟨rfl,rfl⟩) (by rw [QeU];rfl) (Qaa (Qad (V:=.slice a (l.length+1) c) rfl (Qae (Qag (Qag (Qab (Qaa (Qac (V:=.slice b 1 c2) rfl (Qaa (Qac (V:=.slice a (l.length+1) c) rfl (Qaa (Qac (V:=I6 (i:Int)) rfl (Qaa (Qac (V:=I6 1) rfl (Qaa (QaD (a:=(i:Int)) (b:=1) (c:=((i+1:Nat):Int)) rfl rfl (Qaj (by omega) (by omega)) (Qaa (QdI (l:=i+1) (h:=l.length+1) (n':=(l.length+1)-(i+1)) QdG QbN.1 (by omega) rfl (.inr ⟨_,_,rfl,rfl⟩) (.inl ⟨rfl,rfl⟩) (by omega) (by omega) (by omega) (Qaa (Qnv (f:=168) (tR:=4) (lo:=i+1) Tryz.func168 (by kernel_rfl) (by kernel_rfl) (by kernel_rfl) (by kernel_rfl) QdG QbN.1 rfl hs 0 rfl (by rw [QQ6];omega) (by decide) rfl (hpl.own hs hnS) hnS hvb (by omega) rfl (Qaa (Qbx rfl (Qae (QcB rfl ?_))))))))))))))))))))))))))))))))))))
 refine Qag (QaH HM [some 69,some 70,some 71,some 72,some 73,some 74,some 75,some 76,some 77] [] [0,0,0,6,15,0,0,96,255] [pv (.slice a (l.length+1) c),pv (I6 (i:Int)),pv (I6 1),pv (I6 ((i+1:Nat):Int)),pv (.slice (sla a (i+1) c 2) ((l.length+1)-(i+1)) (c-(i+1))),pv (.slice a (l.length+1) c),pv (I6 (i:Int)),pv (.slice (sla a i c 2) ((l.length+1)-i) (c-i)),pv (I6 (((List.map lsc (l.drop i)).length:Nat):Int))] (fun D J=>[cond (D 8) (row (.slice a ((l.take (i+1)++l.drop i++l.drop (i+1+(l.drop i).length)).length) c) ((l.take (i+1)++l.drop i++l.drop (i+1+(l.drop i).length)).map lsc) 102 2) (row (.slice a l.length c) (l.map lsc) 102 2)]) [] (by kernel_rfl) hs ⟨?_,?_,?_,?_,?_,?_,?_,?_,?_,trivial⟩ ?_)
 ·exact oa [] fun D J w hs=>Qac (V:=.slice a (l.length+1) c) rfl (Zz hs)
 ·exact oa [] fun D J w hs=>Qac (V:=.int .i64 (i:Int)) rfl (Zz hs)
 ·exact oa [] fun D J w hs=>Qac (V:=.int .i64 1) rfl (Zz hs)
 ·exact oa [1,2] fun D J w hs=>QaD (a:=(i:Int)) (b:=1) (c:=((i+1:Nat):Int)) rfl rfl (Qaj (by omega) (by omega)) (Zz hs)
 ·exact oa [0,3] fun D J w hs=>QdI (l:=i+1) (h:=l.length+1) (n':=(l.length+1)-(i+1)) QdG QbN.1 (by omega) rfl (.inr ⟨_,_,rfl,rfl⟩) (.inl ⟨rfl,rfl⟩) (by omega) (by omega) (by omega) (Zz hs)
 ·exact oa [] fun D J w hs=>Qac (V:=.slice a (l.length+1) c) rfl (Zz hs)
 ·exact oa [] fun D J w hs=>Qac (V:=.int .i64 (i:Int)) rfl (Zz hs)
 ·exact oa [5,6] fun D J w hs=>QdI (l:=i) (h:=l.length+1) (n':=(l.length+1)-i) QdG QbN.1 (by omega) rfl (.inr ⟨_,_,rfl,rfl⟩) (.inl ⟨rfl,rfl⟩) (by omega) (by omega) (by omega) (Zz hs)
 ·exact oa [4,7] fun D J w hs=>Qc7 (lo:=i+1) (ms:=(l.drop i).map lsc) (ls':=(l.take (i+1)++l.drop i++l.drop (i+1+(l.drop i).length)).map lsc) (n':=(l.take (i+1)++l.drop i++l.drop (i+1+(l.drop i).length)).length) Qgs hs 0 rfl rfl rfl (by simp only [QQ6,List.length_drop,List.length_take,List.length_cons,List.length_nil,QQ7,List.length_replicate];omega) (Rd.srcs (Rd.dropM (hs.rd 0 rfl) i hi _ rfl)) (Qbj (enc:=lsc) (fun _=>rfl) _) (QaV Qcd _) (by simp only [QQ6,List.length_drop,List.length_take,List.length_cons,List.length_nil,QQ7,List.length_replicate];omega) (by simp only [QQ6,List.length_drop,List.length_take,List.length_cons,List.length_nil,QQ7,List.length_replicate];omega) (by simp only [List.map_append,List.map_take,List.map_drop,List.map_cons,List.map_nil,QQ6,List.length_drop,List.length_take,List.length_cons,List.length_nil]) (by rw [QQ6]) fun _ hs=>⟨rfl,hs⟩
 rintro J1 w11 J2 hJ hs
 replace hJ:J2=mix (sq 69 9) J1 _:=hJ
 replace hs:Own w S w11 [row (.slice a ((l.take (i+1)++l.drop i++l.drop (i+1+(l.drop i).length)).length) c) ((l.take (i+1)++l.drop i++l.drop (i+1+(l.drop i).length)).map lsc) 102 2]:=hs
 subst hJ
 refine Qag (Qab (Qaa (Qac (V:=.slice a (l.length+1) c) rfl (Qaa (Qac (V:=I6 (i:Int)) rfl (Qaa (QdI (l:=i) (h:=l.length+1) (n':=(l.length+1)-i) QdG QbN.1 (by omega) rfl (.inr ⟨_,_,rfl,rfl⟩) (.inl ⟨rfl,rfl⟩) (by omega) (by omega) (by omega) (Qaa (Qac (V:=.slice b 1 c2) rfl (Qaa (Qc7 (lo:=i) (ms:=[x].map lsc) (ls':=((l.take (i+1)++l.drop i++l.drop (i+1+(l.drop i).length)).take i++[x]++(l.take (i+1)++l.drop i++l.drop (i+1+(l.drop i).length)).drop (i+[x].length)).map lsc) (n':=((l.take (i+1)++l.drop i++l.drop (i+1+(l.drop i).length)).take i++[x]++(l.take (i+1)++l.drop i++l.drop (i+1+(l.drop i).length)).drop (i+[x].length)).length) Qgs hs 0 rfl rfl rfl (by simp only [QQ6,List.length_drop,List.length_take,List.length_cons,List.length_nil,QQ7,List.length_replicate];omega) (Rd.srcs (hvo _ _ hs)) (Qbj (enc:=lsc) (fun _=>rfl) _) (QaV Qcd _) (by simp only [QQ6,List.length_drop,List.length_take,List.length_cons,List.length_nil,QQ7,List.length_replicate];omega) (by simp only [QQ6,List.length_drop,List.length_take,List.length_cons,List.length_nil,QQ7,List.length_replicate];omega) (by simp only [List.map_append,List.map_take,List.map_drop,List.map_cons,List.map_nil,QQ6,List.length_drop,List.length_take,List.length_cons,List.length_nil]) (by rw [QQ6]) fun w12 hs=>(Qae (Qag (Qab (Qaa (Qac (V:=.slice a (l.length+1) c) rfl (Qaa (Qad (V:=.slice a (l.length+1) c) rfl (Qae (Qav ?_))))))))))))))))))))
 refine ⟨_,Qaq (V:=.slice a (l.length+1) c) Tryz.results156 rfl,?_⟩
 have hX:(l.take (i+1)++l.drop i++l.drop (i+1+(l.drop i).length)).take i++[x]++(l.take (i+1)++l.drop i++l.drop (i+1+(l.drop i).length)).drop (i+[x].length)=Qdm l i x:=Qjv (by omega)
 rw [hX] at hs
 exact ⟨(a,c),by rw [QfG hi],hs.only 0 rfl,trivial⟩
end Tt
end Go.Proofs
namespace Go.Proofs
open Go Go.Vx Go.RowKit
namespace Tt
theorem Qqa (w:World) (S:Nat->Prop) (b:Nat) (kn:Vec) (v1:Value) (a2:Option Addr) (c2:Nat) (ts:List Lst) (l:Lst) (hlt:ts.length<=10000) (hT:QdR ts) (hR:(star [blk b (vc kn++[(v1:Value),(.slice a2 ts.length c2:Value)]) 38,row (.slice a2 ts.length c2) (ts.map lsc) 102 2]).holds w S) (hlS:∀ x,S x->x<w.heap.size):Calls Tryz.prog 122 #[.pointer (some ⟨b,0,none⟩),.agg (lsc l).toArray] w (fun e w'=>∃ x:Option Addr × Nat,e = .returned (.tuple #[])/\Own w S w' [star [blk b (vc kn++[(v1:Value),(.slice x.1 (Qdn l.cart l.tick ts).length x.2:Value)]) 38,row (.slice x.1 (Qdn l.cart l.tick ts).length x.2) ((Qdn l.cart l.tick ts).map lsc) 102 2]]/\True):=by
 refine Qai (n:=46) Tryz.func122 rfl Tryz.ntmps122 rfl ?_
 have hs:=(Own.lent hR hlS).split 0 rfl
 have hpl:=Qqb ts l.cart
 refine Qag (Qab (Qaa (Qa4 (V:=.agg (lsc l).toArray) (cs:=lsc l) rfl rfl hs fun b1 w2 hs=>(Qae (Qag (QaH HM [some 7,some 8,some 9,some 10,some 11,some 12,some 6,some 13,some 14,some 4,some 5] [] [0,1,3,0,8,31,63,127,127,255,1023] [pv (Pq b 0),pv (Pq b 0),pv (.agg ((vc kn)++[(v1:Value),(.slice a2 ts.length c2:Value) ]).toArray),pv (Pq b1 (0+0)),pv (I7 l.cart),pv (.tuple #[I6 ((QbK ts l.cart:Nat):Int),.bool ((QaR ts l.cart).isSome)]),pv (.tuple #[I6 ((QbK ts l.cart:Nat):Int),.bool ((QaR ts l.cart).isSome)]),pv (I6 ((QbK ts l.cart:Nat):Int)),pv (.bool ((QaR ts l.cart).isSome)),pv (I6 ((QbK ts l.cart:Nat):Int)),pv (.bool ((QaR ts l.cart).isSome))] (fun _ _=>_) [10,9] (by kernel_rfl) hs ⟨?_,?_,?_,?_,?_,?_,?_,?_,?_,?_,?_,trivial⟩ ?_))))))
 ·exact oa [] fun D J w hs=>Qac (V:=.pointer (some ⟨b,0,none⟩)) rfl (Zz hs)
 ·exact oa [0] fun D J w hs=>Qcz rfl (Zz hs)
 ·exact oa [1] fun D J w hs=>QaO (cs:=(vc kn)++[(v1:Value),(.slice a2 ts.length c2:Value) ]) QbS hs 0 rfl rfl rfl (Zz hs)
 ·exact oa [] fun D J w hs=>Qaf Qd7 rfl (Zz hs)
 ·exact oa [3] fun D J w hs=>QaP (V:=.int .u16 l.cart) Qar hs 2 rfl rfl rfl (Zz hs)
 ·exact oa [2,4] fun D J w hs=>Qas (vs:=[.agg ((vc kn)++[(v1:Value),(.slice a2 ts.length c2:Value) ]).toArray,.int .u16 l.cart]) (V:=.tuple #[.int .i64 ((QbK ts l.cart:Nat):Int),.bool ((QaR ts l.cart).isSome)]) QrM rfl rfl (Qhe _ kn v1 a2 c2 ts l.cart (by omega) hT (hs.rd 1 rfl)) hs fun _ hs=>Zz hs
 ·exact oa [5] fun D J w hs=>Qac (V:=.tuple #[.int .i64 ((QbK ts l.cart:Nat):Int),.bool ((QaR ts l.cart).isSome)]) rfl (Zz hs)
 ·exact oa [6] fun D J w hs=>Qax (V:=.int .i64 ((QbK ts l.cart:Nat):Int)) rfl rfl (Zz hs)
 ·exact oa [6] fun D J w hs=>Qax (V:=.bool ((QaR ts l.cart).isSome)) rfl rfl (Zz hs)
 ·exact oa [7] fun D J w hs=>Qad (V:=.int .i64 ((QbK ts l.cart:Nat):Int)) rfl (Zz hs)
 ·exact oa [8] fun D J w hs=>Qad (V:=.bool ((QaR ts l.cart).isSome)) rfl (Zz hs)
 rintro J1 w4 J2 hJ hs
 replace hJ:J2=upd (upd (mix (sq 7 6++[6,13,14,4,5]) J1 _) 4 (I6 ((QbK ts l.cart:Nat):Int))) 5 (.bool ((QaR ts l.cart).isSome)):=hJ
 subst hJ
 refine Qag (Qag (Qab (Qaa (Qac (V:=.bool ((QaR ts l.cart).isSome)) rfl (Qaa (Qbx rfl (Qae (Qam (t:=!((QaR ts l.cart).isSome)) rfl (fun c5=>?_) (fun c5=>?_)))))))))
 ·
  replace c5:=Qby c5
  refine Qag ?_
  replace hs:=hs.more emp trivial
  refine QaH HM [some 17,some 18,some 19,some 20,some 21,some 22,some 23,some 24,some 25,some 26,some 27,none] [[],[],[],[],[],[],[],[24],[25]] [0,0,2,6,14,0,0,64,254,511,1023,2047] [pv (Pq b 0),pv (Pq b 0),pv (Pq b 0),pv (Pq b (0+17)),pv (.slice a2 ts.length c2),pv (I6 ((QbK ts l.cart:Nat):Int)),pv (.agg (lsc l).toArray),(true,fun J=>.slice (some ⟨(bOf (J 24)),0,none⟩) 1 1),(true,fun J=>.slice (aOf (J 25)) ((Qdm ts (QbK ts l.cart) l).length) (cOf (J 25))),pv (Pq b 0),pv (Pq b (0+17)),pn] (fun D J=>[cond (D 11) (blk b ((vc kn)++[(v1:Value),(.slice (aOf (J 25)) ((Qdm ts (QbK ts l.cart) l).length) (cOf (J 25)):Value) ]) 38) (blk b ((vc kn)++[(v1:Value),(.slice a2 ts.length c2:Value) ]) 38),cond (D 8) (row (.slice (aOf (J 25)) ((Qdm ts (QbK ts l.cart) l).length) (cOf (J 25))) ((Qdm ts (QbK ts l.cart) l).map lsc) 102 2) (row (.slice a2 ts.length c2) (ts.map lsc) 102 2),blk b1 (lsc l) 102,cond (D 7) (row (.slice (some ⟨(bOf (J 24)),0,none⟩) 1 1) ([l].map lsc) 102 2) (emp)]) [] (by kernel_rfl) hs ⟨?_,?_,?_,?_,?_,?_,?_,?_,?_,?_,?_,?_,trivial⟩ ?_
  ·exact oa [] fun D J w hs=>Qac (V:=.pointer (some ⟨b,0,none⟩)) rfl (Zz hs)
  ·exact oa [] fun D J w hs=>Qac (V:=.pointer (some ⟨b,0,none⟩)) rfl (Zz hs)
  ·exact oa [1] fun D J w hs=>Qcz rfl (Zz hs)
  ·exact oa [2] fun D J w hs=>Qaf QcA rfl (Zz hs)
  ·exact ob [3] [11] rfl rfl fun D J w hs=>QaP (V:=.slice a2 ts.length c2) Qfd hs 0 rfl rfl rfl (Zz hs)
  ·exact oa [] fun D J w hs=>Qac (V:=.int .i64 ((QbK ts l.cart:Nat):Int)) rfl (Zz hs)
  ·exact oa [] fun D J w hs=>QaO (cs:=lsc l) QbN hs 2 rfl rfl rfl (Zz hs)
  ·exact oa [6] fun D J w hs=>QhI (vals:=[.agg (lsc l).toArray]) (ls:=List.map lsc ([l]:List Lst)) Qgs rfl rfl rfl (Qbj (enc:=lsc) (fun _=>rfl) _) (QaV Qcd _) (QQ8 rfl) hs fun _ _ hs=>⟨rfl,hs.put 3 (QQ8 rfl)⟩
  ·exact ob [4,5,7] [11] rfl rfl fun D J w hs=>Qm3 (α:=Option Addr × Nat) (vs:=[.slice a2 ts.length c2,I6 ((QbK ts l.cart:Nat):Int),.slice (some ⟨(bOf (J 24)),0,none⟩) 1 1]) (V:=fun x=>.slice x.1 (Qdm ts (QbK ts l.cart) l).length x.2) (R:=row (.slice a2 ts.length c2) (ts.map lsc) 102 2) (R':=fun x=>row (.slice x.1 (Qdm ts (QbK ts l.cart) l).length x.2) ((Qdm ts (QbK ts l.cart) l).map lsc) 102 2) (Lo:=fun _=>[]) (F:=fun _ _=>True) Qti rfl rfl hs 1 3 (by decide) rfl rfl (QQ8 rfl) (fun S hS hlt hnS hpl9=>Qm8 _ S a2 c2 ts (QbK ts l.cart) hpl l (some ⟨(bOf (J 24)),0,none⟩) 1 (hs.rd 3 rfl) hpl9 hnS hpl9.lt (by omega) hS hlt) fun _ _ hs _=>⟨rfl,hs⟩
  ·exact oa [0] fun D J w hs=>Qcz rfl (Zz hs)
  ·exact oa [9] fun D J w hs=>Qaf QcA rfl (Zz hs)
  ·exact oa [8,10] fun D J w hs=>QcQ (V:=.slice (aOf (J 25)) ((Qdm ts (QbK ts l.cart) l).length) (cOf (J 25))) (cs':=(vc kn)++[(v1:Value),(.slice (aOf (J 25)) ((Qdm ts (QbK ts l.cart) l).length) (cOf (J 25)):Value) ]) Qfd hs 0 rfl rfl rfl rfl (QQ8 rfl) rfl fun _ hs=>⟨trivial,hs⟩
  rintro J1 w9 J2 hJ hs
  replace hJ:J2=mix (sq 17 11) J1 _:=hJ
  replace hs:Own w S w9 [blk b ((vc kn)++[(v1:Value),(.slice (aOf (J1 25)) ((Qdm ts (QbK ts l.cart) l).length) (cOf (J1 25)):Value) ]) 38,row (.slice (aOf (J1 25)) ((Qdm ts (QbK ts l.cart) l).length) (cOf (J1 25))) ((Qdm ts (QbK ts l.cart) l).map lsc) 102 2,blk b1 (lsc l) 102,row (.slice (some ⟨(bOf (J1 24)),0,none⟩) 1 1) ([l].map lsc) 102 2]:=hs
  generalize (bOf (J1 24))=b10 at hs
  generalize (aOf (J1 25))=a11 at hs
  generalize (cOf (J1 25))=c12 at hs
  subst hJ
  refine Qav ?_
  refine ⟨_,Qbd Tryz.results122,?_⟩
  have hX:Qdm ts (QbK ts l.cart) l=Qdn l.cart l.tick ts:=(QoP hT c5).symm
  have ho:=(hs.join 0 1 (by decide) rfl rfl).only 0 rfl
  rw [hX] at ho
  exact ⟨(a11,c12),rfl,ho,trivial⟩
 replace c5:=Qbr c5
 refine Qap ?_
 have hfa:=Qhu hT c5
 have hfb:=hfa.1
 refine QaH HM [some 28,some 29,some 30,some 31,some 32,some 33,some 34,some 35,some 36,some 37,some 38,some 39,some 40,some 41,some 42,some 43,some 44,some 45,none] [] [0,1,3,7,0,0,32,96,224,0,992,2016,4064,0,8192,32736,65535,131071,262143] [pv (Pq b 0),pv (Pq b 0),pv (Pq b (0+17)),pv (.slice a2 ts.length c2),pv (I6 ((QbK ts l.cart:Nat):Int)),pv (Pq b 0),pv (Pq b 0),pv (Pq b (0+17)),pv (.slice a2 ts.length c2),pv (I6 ((QbK ts l.cart:Nat):Int)),pv (.pointer (some ⟨bkS (.slice a2 ts.length c2),ofS (.slice a2 ts.length c2)+((QbK ts l.cart:Nat):Int).toNat*2,none⟩)),pv (.pointer (some ⟨bkS (.slice a2 ts.length c2),ofS (.slice a2 ts.length c2)+((QbK ts l.cart:Nat):Int).toNat*2+1,none⟩)),pv (.int .u32 ((gd ts (QbK ts l.cart)).tick)),pv (Pq b1 (0+1)),pv (.int .u32 l.tick),pv (.int .u32 (max ((gd ts (QbK ts l.cart)).tick) l.tick)),pv (.pointer (some ⟨bkS (.slice a2 ts.length c2),ofS (.slice a2 ts.length c2)+((QbK ts l.cart:Nat):Int).toNat*2,none⟩)),pv (.pointer (some ⟨bkS (.slice a2 ts.length c2),ofS (.slice a2 ts.length c2)+((QbK ts l.cart:Nat):Int).toNat*2+1,none⟩)),pn] (fun D J=>[blk b ((vc kn)++[(v1:Value),(.slice a2 ts.length c2:Value) ]) 38,cond (D 18) (row (.slice a2 ts.length c2) ((ts.set (QbK ts l.cart) (⟨(gd ts (QbK ts l.cart)).cart,max ((gd ts (QbK ts l.cart)).tick) l.tick⟩:Lst)).map lsc) 102 2) (row (.slice a2 ts.length c2) (ts.map lsc) 102 2),blk b1 (lsc l) 102]) [] (by kernel_rfl) hs ⟨?_,?_,?_,?_,?_,?_,?_,?_,?_,?_,?_,?_,?_,?_,?_,?_,?_,?_,?_,trivial⟩ ?_
 ·exact oa [] fun D J w hs=>Qac (V:=.pointer (some ⟨b,0,none⟩)) rfl (Zz hs)
 ·exact oa [0] fun D J w hs=>Qcz rfl (Zz hs)
 ·exact oa [1] fun D J w hs=>Qaf QcA rfl (Zz hs)
 ·exact oa [2] fun D J w hs=>QaP (V:=.slice a2 ts.length c2) Qfd hs 0 rfl rfl rfl (Zz hs)
 ·exact oa [] fun D J w hs=>Qac (V:=.int .i64 ((QbK ts l.cart:Nat):Int)) rfl (Zz hs)
 ·exact oa [] fun D J w hs=>Qac (V:=.pointer (some ⟨b,0,none⟩)) rfl (Zz hs)
 ·exact oa [5] fun D J w hs=>Qcz rfl (Zz hs)
 ·exact oa [6] fun D J w hs=>Qaf QcA rfl (Zz hs)
 ·exact oa [7] fun D J w hs=>QaP (V:=.slice a2 ts.length c2) Qfd hs 0 rfl rfl rfl (Zz hs)
 ·exact oa [] fun D J w hs=>Qac (V:=.int .i64 ((QbK ts l.cart:Nat):Int)) rfl (Zz hs)
 ·exact ob [8,9] [18] rfl rfl fun D J w hs=>Qaw Qea QbN.1 (hs.rd 1 rfl) rfl rfl (by omega) (by rw [QQ6];omega) (Zz hs)
 ·exact oa [10] fun D J w hs=>Qaf QdZ rfl (Zz hs)
 ·exact ob [11] [18] rfl rfl fun D J w hs=>QaU (j:=1) (V:=.int .u32 ((gd ts (QbK ts l.cart)).tick)) (QbK ts l.cart) QaN (hs.rd 1 rfl) (Qa9 (by omega)) rfl rfl (by omega) (Zz hs)
 ·exact oa [] fun D J w hs=>Qaf QdZ rfl (Zz hs)
 ·exact oa [13] fun D J w hs=>QaP (V:=.int .u32 l.tick) QaN hs 2 rfl rfl rfl (Zz hs)
 ·exact oa [12,14] fun D J w hs=>QoA rfl rfl (Zz hs)
 ·exact ob [3,4] [18] rfl rfl fun D J w hs=>Qaw Qea QbN.1 (hs.rd 1 rfl) rfl rfl (by omega) (by rw [QQ6];omega) (Zz hs)
 ·exact oa [16] fun D J w hs=>Qaf QdZ rfl (Zz hs)
 ·exact oa [15,17] fun D J w hs=>QtE (z:=(⟨(gd ts (QbK ts l.cart)).cart,max ((gd ts (QbK ts l.cart)).tick) l.tick⟩:Lst)) (vs:=[.int .u32 (max ((gd ts (QbK ts l.cart)).tick) l.tick)]) (QbK ts l.cart) 1 QaN.1 hs 1 rfl rfl (by omega) (by first|omega|(simp only [List.length_set];omega)) rfl rfl rfl rfl (QQ8 rfl) (Qcd _) (Qat rfl Qa1) fun _ hs=>⟨trivial,hs⟩
 rintro J1 w14 J2 hJ hs
 replace hJ:J2=mix (sq 28 18) J1 _:=hJ
 replace hs:Own w S w14 [blk b ((vc kn)++[(v1:Value),(.slice a2 ts.length c2:Value) ]) 38,row (.slice a2 ts.length c2) ((ts.set (QbK ts l.cart) (⟨(gd ts (QbK ts l.cart)).cart,max ((gd ts (QbK ts l.cart)).tick) l.tick⟩:Lst)).map lsc) 102 2,blk b1 (lsc l) 102]:=hs
 subst hJ
 refine ⟨_,Qbd Tryz.results122,?_⟩
 have hX:ts.set (QbK ts l.cart) (⟨(gd ts (QbK ts l.cart)).cart,max ((gd ts (QbK ts l.cart)).tick) l.tick⟩:Lst)=Qdn l.cart l.tick ts:=by rw [QoC hT c5];congr 1;rw [(Qhu hT c5).2.1]
 have ho:=(hs.join 0 1 (by decide) rfl rfl).only 0 rfl
 have hl:ts.length=(Qdn l.cart l.tick ts).length:=by rw [← hX,List.length_set]
 rw [hX,hl] at ho
 exact ⟨(a2,c2),rfl,ho,trivial⟩
end Tt
end Go.Proofs
namespace Go.Proofs
open Go Go.Vx Go.RowKit
namespace Tt
theorem Qrn (w:World) (s:Sta) (a1:Option Addr) (c1:Nat) (a2:Option Addr) (c2:Nat) (hok:Qdq s) (hle:s.ents.length<=1000) (hlt:s.ticks.length<=1000) (hr1:Rd w (.slice a1 s.ents.length c1) 7 (s.ents.map cec)) (hr2:Rd w (.slice a2 s.ticks.length c2) 2 (s.ticks.map lsc)):Calls Tryz.prog 116 #[.agg ((vc s.known)++[(.slice a1 s.ents.length c1:Value),(.slice a2 s.ticks.length c2:Value) ]).toArray] w (fun e w'=>∃ x:(Option Addr × Nat) × (Option Addr × Nat),e = .returned (.agg (vc (s).known++[(.slice x.1.1 (s).ents.length x.1.2:Value),(.slice x.2.1 (s).ticks.length x.2.2:Value)]).toArray)/\Own w no w' [row (.slice x.1.1 (s).ents.length x.1.2) ((s).ents.map cec) 106 7,row (.slice x.2.1 (s).ticks.length x.2.2) ((s).ticks.map lsc) 102 2]/\True):=by
 refine Qai (n:=12) Tryz.func116 rfl Tryz.ntmps116 rfl ?_
 have hs:=Own.start w
 refine Qag (Qab (Qaa (Qa4 (V:=.agg ((vc s.known)++[(.slice a1 s.ents.length c1:Value),(.slice a2 s.ticks.length c2:Value) ]).toArray) (cs:=(vc s.known)++[(.slice a1 s.ents.length c1:Value),(.slice a2 s.ticks.length c2:Value) ]) rfl rfl hs fun b1 w2 hs=>(Qaa (QaL (cs:=(vc vzero)++[(.slice none 0 0:Value),(.slice none 0 0:Value) ]) Qfr rfl hs fun b3 w4 hs=>(Qae (Qag ?_)))))))
 replace hs:=hs.more emp trivial
 replace hs:=hs.more emp trivial
 refine QaH HM [some 3,some 4,some 5,some 6,some 7,some 8,some 9,some 10,some 11,none] [[],[],[],[],[7],[],[],[10],[7,10]] [0,1,0,4,12,0,32,124,255,511] [pv (Pq b1 (0+0)),pv (.agg (vc s.known).toArray),pv (Pq b1 (0+16)),pv (.slice a1 s.ents.length c1),(true,fun J=>.slice (aOf (J 7)) ((s.ents).length) (cOf (J 7))),pv (Pq b1 (0+17)),pv (.slice a2 s.ticks.length c2),(true,fun J=>.slice (aOf (J 10)) ((s.ticks).length) (cOf (J 10))),(true,fun J=>.agg ((vc s.known)++[(.slice (aOf (J 7)) ((s.ents).length) (cOf (J 7)):Value),(.slice (aOf (J 10)) ((s.ticks).length) (cOf (J 10)):Value) ]).toArray),pn] (fun D J=>[blk b1 ((vc s.known)++[(.slice a1 s.ents.length c1:Value),(.slice a2 s.ticks.length c2:Value) ]) 38,cond (D 9) (blk b3 ((vc s.known)++[(.slice (aOf (J 7)) ((s.ents).length) (cOf (J 7)):Value),(.slice (aOf (J 10)) ((s.ticks).length) (cOf (J 10)):Value) ]) 38) (blk b3 ((vc vzero)++[(.slice none 0 0:Value),(.slice none 0 0:Value) ]) 38),cond (D 4) (row (.slice (aOf (J 7)) ((s.ents).length) (cOf (J 7))) (s.ents.map cec) 106 7) (emp),cond (D 7) (row (.slice (aOf (J 10)) ((s.ticks).length) (cOf (J 10))) (s.ticks.map lsc) 102 2) (emp)]) [] (by kernel_rfl) hs ⟨?_,?_,?_,?_,?_,?_,?_,?_,?_,?_,trivial⟩ ?_
 ·exact oa [] fun D J w hs=>Qaf Qel rfl (Zz hs)
 ·exact oa [0] fun D J w hs=>QbT (vs:=vc s.known) Qbu hs 0 rfl rfl rfl rfl (Zz hs)
 ·exact oa [] fun D J w hs=>Qaf Qc4 rfl (Zz hs)
 ·exact oa [2] fun D J w hs=>QaP (V:=.slice a1 s.ents.length c1) Qgf hs 0 rfl rfl rfl (Zz hs)
 ·exact ob [3] [9] rfl rfl fun D J w hs=>Qbm (vs:=[.slice a1 s.ents.length c1]) (V:=fun x:Option Addr × Nat=>.slice x.1 (s.ents).length x.2) Qsu rfl rfl (QhQ _ a1 c1 s.ents (by omega) (Rd.own' hr1 hs)) hs fun _ _ hs _=>⟨rfl,hs.put 2 (QQ8 rfl)⟩
 ·exact oa [] fun D J w hs=>Qaf QcA rfl (Zz hs)
 ·exact oa [5] fun D J w hs=>QaP (V:=.slice a2 s.ticks.length c2) Qfd hs 0 rfl rfl rfl (Zz hs)
 ·exact ob [6] [9] rfl rfl fun D J w hs=>Qbm (vs:=[.slice a2 s.ticks.length c2]) (V:=fun x:Option Addr × Nat=>.slice x.1 (s.ticks).length x.2) Qr4 rfl rfl (QmW _ a2 c2 s.ticks (by omega) (Rd.own' hr2 hs)) hs fun _ _ hs _=>⟨rfl,hs.put 3 (QQ8 rfl)⟩
 ·exact oa [1,4,7] fun D J w hs=>Qcr (vs:=[(0,.agg (vc s.known).toArray),(1,.slice (aOf (J 7)) ((s.ents).length) (cOf (J 7))),(2,.slice (aOf (J 10)) ((s.ticks).length) (cOf (J 10)))]) (cs:=(vc s.known)++[(.slice (aOf (J 7)) ((s.ents).length) (cOf (J 7)):Value),(.slice (aOf (J 10)) ((s.ticks).length) (cOf (J 10)):Value) ]) [vc vzero,[(.slice none 0 0:Value)],[(.slice none 0 0:Value)]] [vc s.known,[(.slice (aOf (J 7)) ((s.ents).length) (cOf (J 7)):Value)],[(.slice (aOf (J 10)) ((s.ticks).length) (cOf (J 10)):Value)]] Qk7 rfl (rfl) rfl rfl (Zz hs)
 ·exact oa [8] fun D J w hs=>QcG (V:=.agg ((vc s.known)++[(.slice (aOf (J 7)) ((s.ents).length) (cOf (J 7)):Value),(.slice (aOf (J 10)) ((s.ticks).length) (cOf (J 10)):Value) ]).toArray) (vs:=(vc s.known)++[(.slice (aOf (J 7)) ((s.ents).length) (cOf (J 7)):Value),(.slice (aOf (J 10)) ((s.ticks).length) (cOf (J 10)):Value) ]) (cs':=(vc s.known)++[(.slice (aOf (J 7)) ((s.ents).length) (cOf (J 7)):Value),(.slice (aOf (J 10)) ((s.ticks).length) (cOf (J 10)):Value) ]) QbS.1 hs 1 rfl rfl rfl rfl rfl (QQ8 rfl) (Qbh (QbQ _) (Qat rfl (Qat rfl Qa1))) (Qaz rfl) fun _ hs=>⟨trivial,hs⟩
 rintro J1 w8 J2 hJ hs
 replace hJ:J2=mix (sq 3 9) J1 _:=hJ
 replace hs:Own w no w8 [blk b1 ((vc s.known)++[(.slice a1 s.ents.length c1:Value),(.slice a2 s.ticks.length c2:Value) ]) 38,blk b3 ((vc s.known)++[(.slice (aOf (J1 7)) ((s.ents).length) (cOf (J1 7)):Value),(.slice (aOf (J1 10)) ((s.ticks).length) (cOf (J1 10)):Value) ]) 38,row (.slice (aOf (J1 7)) ((s.ents).length) (cOf (J1 7))) (s.ents.map cec) 106 7,row (.slice (aOf (J1 10)) ((s.ticks).length) (cOf (J1 10))) (s.ticks.map lsc) 102 2]:=hs
 generalize (aOf (J1 7))=a9 at hs
 generalize (cOf (J1 7))=c10 at hs
 generalize (aOf (J1 10))=a11 at hs
 generalize (cOf (J1 10))=c12 at hs
 subst hJ
 refine Qav ?_
 refine ⟨_,Qdy (cs:=(vc s.known)++[(.slice a9 ((s.ents).length) c10:Value),(.slice a11 ((s.ticks).length) c12:Value) ]) Tryz.results116 QbS hs 1 rfl rfl rfl,?_⟩
 exact ⟨((a9,c10),(a11,c12)),rfl,hs.two 2 3 (by decide) rfl rfl,trivial⟩
theorem QrA (w:World) (x:Cen):Calls Tryz.prog 118 #[.agg (cec x).toArray] w (fun e w'=>e = .returned (.agg (oc (QaE x)).toArray)/\Own w no w' []):=by
 refine Qai (n:=14) Tryz.func118 rfl Tryz.ntmps118 rfl ?_
 have hs:=Own.start w
 refine Qag (Qab (Qaa (Qa4 (V:=.agg (cec x).toArray) (cs:=cec x) rfl rfl hs fun b1 w2 hs=>(Qaa (QaL (cs:=oc (⟨(⟨0,0⟩:Dot),0,0,0,0,0,vzero⟩:Opn)) Qin rfl hs fun b3 w4 hs=>(Qae (Qag (Qab (Qaa (Qaf QbM rfl (Qaa (QbT (vs:=dc x.dot) QcE hs 0 rfl rfl rfl rfl (Qaa (Qaf Qd5 rfl (Qaa (QaP (V:=.int .u8 x.kind) Qds hs 0 rfl rfl rfl (Qaa (Qaf Qdf rfl (Qaa (QaP (V:=I7 x.cart) Qar hs 0 rfl rfl rfl (Qaa (Qaf Qdc rfl (Qaa (QaP (V:=I7 x.item) Qar hs 0 rfl rfl rfl (Qaa (Qaf Qd1 rfl (Qaa (QaP (V:=I7 x.qty) Qar hs 0 rfl rfl rfl (Qaa (Qcr (vs:=[(0,.agg (dc x.dot).toArray),(1,.int .u8 x.kind),(2,I7 x.cart),(3,I7 x.item),(4,I7 x.qty)]) (cs:=oc (⟨x.dot,x.kind,x.cart,x.item,x.qty,0,vzero⟩:Opn)) [dc (⟨0,0⟩:Dot),[(.int .u8 0:Value)],[(I7 0:Value)],[(I7 0:Value)],[(I7 0:Value)],[(.int .u32 0:Value)],vc vzero] [dc x.dot,[(.int .u8 x.kind:Value)],[(I7 x.cart:Value)],[(I7 x.item:Value)],[(I7 x.qty:Value)],[(.int .u32 0:Value)],vc vzero] Qrd rfl (rfl) rfl rfl (Qaa (QcG (V:=.agg (oc (⟨x.dot,x.kind,x.cart,x.item,x.qty,0,vzero⟩:Opn)).toArray) (vs:=oc (⟨x.dot,x.kind,x.cart,x.item,x.qty,0,vzero⟩:Opn)) (cs':=oc (⟨x.dot,x.kind,x.cart,x.item,x.qty,0,vzero⟩:Opn)) QbB.1 hs 1 rfl rfl rfl rfl rfl (QQ8 rfl) (Qc1 _) (Qaz rfl) fun w5 hs=>(Qae (Qav ?_))))))))))))))))))))))))))))))))))
 refine ⟨_,Qdy (cs:=oc (⟨x.dot,x.kind,x.cart,x.item,x.qty,0,vzero⟩:Opn)) Tryz.results118 QbB hs 1 rfl rfl rfl,(Zr hs ?_)⟩
 rfl
theorem Qms (w:World) (x:Cen) (o:Opn) (bx:Nat) (hx:QcZ x.dot) (hc:Qb5 w bx (oc o)):Calls Tryz.prog 117 #[.agg (cec x).toArray,.pointer (some ⟨bx,0,none⟩)] w (fun e w'=>e = .returned (.bool (QaB o (QaE x)))/\Own w no w' []):=by
 refine Qai (n:=8) Tryz.func117 rfl Tryz.ntmps117 rfl ?_
 have hs:=Own.start w
 refine Qag (Qab (Qaa (Qa4 (V:=.agg (cec x).toArray) (cs:=cec x) rfl rfl hs fun b1 w2 hs=>(Qaa (Qad (V:=.bool false) rfl (Qae (Qag (QaH HM [some 4,some 5,some 6,some 7,some 3] [] [0,0,2,7,15] [pv (.agg (oc o).toArray),pv (.agg (cec x).toArray),pv (.agg (oc (QaE x)).toArray),pv (.bool (QaB o (QaE x))),pv (.bool (QaB o (QaE x)))] (fun _ _=>_) [4] (by kernel_rfl) hs ⟨?_,?_,?_,?_,?_,trivial⟩ ?_))))))))
 ·exact oa [] fun D J w hs=>Qmj (vs:=oc o) QbB (hc.own' hs) rfl rfl rfl (Zz hs)
 ·exact oa [] fun D J w hs=>QaO (cs:=cec x) QaA hs 0 rfl rfl rfl (Zz hs)
 ·exact oa [1] fun D J w hs=>Qas (vs:=[.agg (cec x).toArray]) (V:=.agg (oc (QaE x)).toArray) QsQ rfl rfl (QrA _ x) hs fun _ hs=>Zz hs
 ·exact oa [0,2] fun D J w hs=>Qas (vs:=[.agg (oc o).toArray,.agg (oc (QaE x)).toArray]) (V:=.bool (QaB o (QaE x))) QtH rfl rfl (Qj1 _ o (QaE x) hx) hs fun _ hs=>Zz hs
 ·exact oa [3] fun D J w hs=>Qad (V:=.bool (QaB o (QaE x))) rfl (Zz hs)
 rintro J1 w5 J2 hJ hs
 replace hJ:J2=upd (mix [4,5,6,7,3] J1 _) 3 (.bool (QaB o (QaE x))):=hJ
 subst hJ
 refine Qav ?_
 refine ⟨_,Qaq (V:=.bool (QaB o (QaE x))) Tryz.results117 rfl,(Zr hs ?_)⟩
 rfl
end Tt
end Go.Proofs
namespace Go.Proofs
open Go Go.Vx Go.RowKit
namespace Tt
theorem Qnj (w:World) (S:Nat->Prop) (a:Option Addr) (c:Nat) (l:List Cen) (i:Nat) (hi:i<=l.length) (x:Cen) (b:Option Addr) (c2:Nat) (hv:Rd w (.slice b 1 c2) 7 (List.map cec [x])) (hpl:QdX w (.slice b 1 c2)) (hnS:¬S (bkS (.slice b 1 c2))) (hvb:bkS (.slice b 1 c2)<w.heap.size) (hN:(l.length+1)*25<=140737488355328) (hR:(row (.slice a l.length c) (l.map cec) 106 7).holds w S) (hlt:∀ b,S b->b<w.heap.size):Calls Tryz.prog 121 #[.slice a l.length c,.int .i64 (i:Int),.slice b 1 c2] w (fun e w'=>∃ x':Option Addr × Nat,e = .returned (.slice x'.1 (Qdm l i x).length x'.2)/\Own w S w' [row (.slice x'.1 (Qdm l i x).length x'.2) ((Qdm l i x).map cec) 106 7]/\True):=by
 refine Qai (n:=95) Tryz.func121 rfl Tryz.ntmps121 rfl ?_
 have hs:=Own.lent hR hlt
 have hn:=(hs.rd 0 rfl).sml
 have hlc:=(hs.rd 0 rfl).roomM
 have hvo:∀ (w1:World) (L1:List Res),Own w S w1 L1->Rd w1 (.slice b 1 c2) 7 (List.map cec [x]):=fun w1 L1 h=>hv.own h hnS
 refine Qag (Qab (Qaa (Qad (V:=.slice none 0 0) rfl (Qae (Qag (Qab (Qaa (Qac (V:=.slice a l.length c) rfl (Qaa (Qac (V:=I6 (i:Int)) rfl (Qaa (Qk2 (l:=i) (h:=l.length) (m:=c) (n':=(l.drop i).length) QcO QaA.1 (hs.rd 0 rfl) rfl (.inr ⟨_,_,rfl,rfl⟩) (.inl ⟨rfl,rfl⟩) (.inl ⟨rfl,rfl⟩) (by omega) (by omega) (Nat.le_trans (show l.length<=l.length by omega) (Rd.roomM (hs.rd 0 rfl))) (Nat.le_refl _) (by simp only [List.length_take,List.length_drop]<;>omega) ?_))))))))))))
 refine Qae (Qag (Qab (Qaa (Qac (V:=.slice b 1 c2) rfl (Qaa (QaX (V:=I6 (1:Int)) (V':=I6 1) (Qa0 (n:=1) QbC (hvo _ _ hs) (by simp) rfl ⟨rfl,rfl⟩) rfl (Qaa (Qad (V:=I6 1) rfl (Qae (Qag (Qag (Qab (Qaa (Qac (V:=I6 1) rfl (Qaa (QaX (V:=.bool (decide ((1:Int)=0))) (V':=.bool false) (QaW rfl rfl ⟨rfl,rfl⟩) (congrArg Value.bool (by decide)) (Qae (Qb1 rfl ?_))))))))))))))))))
 refine Qap (Qag (Qab (Qaa (Qac (V:=.slice a l.length c) rfl (Qaa (Qa0 (n:=l.length) QbC (hs.rd 0 rfl) (by simp) rfl (Qaa (Qad (V:=I6 ((l.length:Nat):Int)) rfl (Qae (Qag (Qag (Qab (Qaa (Qac (V:=I6 (i:Int)) rfl (Qaa (Qac (V:=I6 ((l.length:Nat):Int)) rfl (Qaa (QaW rfl rfl (Qae (Qam (t:=decide ((i:Int)=((l.length:Nat):Int))) rfl (fun c1=>?_) (fun c1=>?_)))))))))))))))))))))
 ·
  replace c1:=QQ1 c1
  refine Qag (Qab (Qaa (Qac (V:=.slice a l.length c) rfl (Qaa (Qac (V:=.slice b 1 c2) rfl (Qaa (Qdb (ls':=(l++[x]).map cec) (n:=(l++[x]).length) QeR hs 0 rfl rfl rfl (hvo _ _ hs) (QaV Qbi _) (by simp only [QQ6,QQ7,List.length_cons,List.length_nil];omega) (by simp) (by simp) fun a2 c2 w3 hs=>(Qaa (Qad (V:=.slice a2 ((l++[x]).length) c2) rfl (Qae (Qav ?_)))))))))))
  refine ⟨_,Qaq (V:=.slice a2 ((l++[x]).length) c2) Tryz.results121 rfl,?_⟩
  have hX:l++[x]=Qdm l i x:=QjM (by omega)
  rw [hX] at hs
  exact ⟨(a2,c2),by rw [← hX],hs.only 0 rfl,trivial⟩
 replace c1:=QQ2 c1
 refine Qap (Qag (Qag (Qab (Qaa (Qac (V:=I6 ((l.length:Nat):Int)) rfl (Qaa (Qac (V:=I6 1) rfl (Qaa (QaD (a:=((l.length:Nat):Int)) (b:=1) (c:=((l.length+1:Nat):Int)) rfl rfl (Qaj (by omega) (by omega)) (Qaa (Qac (V:=.slice a l.length c) rfl (Qaa (Qpu QbC rfl (Qaa (QbU rfl rfl (Qae (Qam (t:=decide ((c:Int)<((l.length+1:Nat):Int))) rfl (fun c4=>?_) (fun c4=>?_))))))))))))))))))
 ·
  replace c4:=QQ1 c4
  refine Qag (Qab (Qaa (Qac (V:=.slice a l.length c) rfl (Qaa (Qac (V:=I6 (i:Int)) rfl (Qaa (QdI (l:=0) (h:=i) (n':=i) QcO QaA.1 (by omega) rfl (.inl ⟨rfl,rfl⟩) (.inr ⟨_,_,rfl,rfl⟩) (by omega) (by omega) (by omega) (Qaa (Qac (V:=I6 ((l.length:Nat):Int)) rfl (Qaa (Qac (V:=I6 1) rfl (Qaa (QaD (a:=((l.length:Nat):Int)) (b:=1) (c:=((l.length+1:Nat):Int)) rfl rfl (Qaj (by omega) (by omega)) (Qaa (Qac (V:=I6 (i:Int)) rfl (Qaa (Qa3 (a:=((l.length+1:Nat):Int)) (b:=(i:Int)) (c:=(((l.length+1)-i:Nat):Int)) rfl rfl (Qaj (by omega) (by omega)) (Qaa (QpQ (zl:=cec (⟨0,0,0,0,(⟨0,0⟩:Dot),0⟩:Cen)) (ls':=(l.take i++List.replicate ((l.length+1)-i) (⟨0,0,0,0,(⟨0,0⟩:Dot),0⟩:Cen)).map cec) QeR Qsp (.inl Qfn) hs (hs.rd 0 rfl) rfl rfl (by rw [QQ6];omega) (by rw [QQ6];omega) (by omega) (by omega) (QaV Qbi _) (Qbi _) rfl (by omega) (by simp only [List.map_append,List.map_take,List.map_replicate]) (l.take i++List.replicate ((l.length+1)-i) (⟨0,0,0,0,(⟨0,0⟩:Dot),0⟩:Cen)).length (by rw [QQ6]) fun a5 c5 w6 hs=>(Qaa (Qad (V:=.slice a5 ((l.take i++List.replicate ((l.length+1)-i) (⟨0,0,0,0,(⟨0,0⟩:Dot),0⟩:Cen)).length) c5) rfl (Qae (Qag ?_)))))))))))))))))))))))
  have hq9:(l.take i++List.replicate ((l.length+1)-i) (⟨0,0,0,0,(⟨0,0⟩:Dot),0⟩:Cen)).length=l.length+1:=by simp only [QQ7,List.length_take,List.length_replicate];omega
  have hr9:=(hs.rd 1 rfl).roomM
  refine Qab (Qaa (Qac (V:=.slice a5 ((l.take i++List.replicate ((l.length+1)-i) (⟨0,0,0,0,(⟨0,0⟩:Dot),0⟩:Cen)).length) c5) rfl (Qaa (Qac (V:=I6 (i:Int)) rfl (Qaa (QdI (l:=i) (h:=(l.take i++List.replicate ((l.length+1)-i) (⟨0,0,0,0,(⟨0,0⟩:Dot),0⟩:Cen)).length) (n':=((l.take i++List.replicate ((l.length+1)-i) (⟨0,0,0,0,(⟨0,0⟩:Dot),0⟩:Cen)).length)-i) QcO QaA.1 (by omega) rfl (.inr ⟨_,_,rfl,rfl⟩) (.inl ⟨rfl,rfl⟩) (by omega) (by omega) (by omega) (Qaa (Qac (V:=.slice b 1 c2) rfl (Qaa (Qc7 (lo:=i) (ms:=[x].map cec) (ls':=((l.take i++List.replicate ((l.length+1)-i) (⟨0,0,0,0,(⟨0,0⟩:Dot),0⟩:Cen)).take i++[x]++(l.take i++List.replicate ((l.length+1)-i) (⟨0,0,0,0,(⟨0,0⟩:Dot),0⟩:Cen)).drop (i+[x].length)).map cec) (n':=((l.take i++List.replicate ((l.length+1)-i) (⟨0,0,0,0,(⟨0,0⟩:Dot),0⟩:Cen)).take i++[x]++(l.take i++List.replicate ((l.length+1)-i) (⟨0,0,0,0,(⟨0,0⟩:Dot),0⟩:Cen)).drop (i+[x].length)).length) QeR hs 1 rfl rfl rfl (by simp only [QQ6,List.length_drop,List.length_take,List.length_cons,List.length_nil,QQ7,List.length_replicate];omega) (Rd.srcs (hvo _ _ hs)) (Qbj (enc:=cec) (fun _=>rfl) _) (QaV Qbi _) (by simp only [QQ6,List.length_drop,List.length_take,List.length_cons,List.length_nil,QQ7,List.length_replicate];omega) (by simp only [QQ6,List.length_drop,List.length_take,List.length_cons,List.length_nil,QQ7,List.length_replicate];omega) (by simp only [List.map_append,List.map_take,List.map_drop,List.map_cons,List.map_nil,QQ6,List.length_drop,List.length_take,List.length_cons,List.length_nil]) (by rw [QQ6]) fun w7 hs=>(Qae (Qag (QaH HM [some 46,some 47,some 48,some 49,some 50,some 51,some 52,some 53,some 54] [] [0,0,0,6,15,0,0,96,255] [pv (.slice a5 ((l.take i++List.replicate ((l.length+1)-i) (⟨0,0,0,0,(⟨0,0⟩:Dot),0⟩:Cen)).length) c5),pv (I6 (i:Int)),pv (I6 1),pv (I6 ((i+1:Nat):Int)),pv (.slice (sla a5 (i+1) c5 7) (((l.take i++List.replicate ((l.length+1)-i) (⟨0,0,0,0,(⟨0,0⟩:Dot),0⟩:Cen)).length)-(i+1)) (c5-(i+1))),pv (.slice a l.length c),pv (I6 (i:Int)),pv (.slice (sla a i c 7) ((l.drop i).length) (c-i)),pv (I6 (((List.map cec (l.drop i)).length:Nat):Int))] (fun D J=>[row (.slice a l.length c) (l.map cec) 106 7,cond (D 8) (row (.slice a5 ((((l.take i++List.replicate ((l.length+1)-i) (⟨0,0,0,0,(⟨0,0⟩:Dot),0⟩:Cen)).take i++[x]++(l.take i++List.replicate ((l.length+1)-i) (⟨0,0,0,0,(⟨0,0⟩:Dot),0⟩:Cen)).drop (i+[x].length)).take (i+1)++l.drop i++((l.take i++List.replicate ((l.length+1)-i) (⟨0,0,0,0,(⟨0,0⟩:Dot),0⟩:Cen)).take i++[x]++(l.take i++List.replicate ((l.length+1)-i) (⟨0,0,0,0,(⟨0,0⟩:Dot),0⟩:Cen)).drop (i+[x].length)).drop (i+1+(l.drop i).length)).length) c5) ((((l.take i++List.replicate ((l.length+1)-i) (⟨0,0,0,0,(⟨0,0⟩:Dot),0⟩:Cen)).take i++[x]++(l.take i++List.replicate ((l.length+1)-i) (⟨0,0,0,0,(⟨0,0⟩:Dot),0⟩:Cen)).drop (i+[x].length)).take (i+1)++l.drop i++((l.take i++List.replicate ((l.length+1)-i) (⟨0,0,0,0,(⟨0,0⟩:Dot),0⟩:Cen)).take i++[x]++(l.take i++List.replicate ((l.length+1)-i) (⟨0,0,0,0,(⟨0,0⟩:Dot),0⟩:Cen)).drop (i+[x].length)).drop (i+1+(l.drop i).length)).map cec) 106 7) (row (.slice a5 (((l.take i++List.replicate ((l.length+1)-i) (⟨0,0,0,0,(⟨0,0⟩:Dot),0⟩:Cen)).take i++[x]++(l.take i++List.replicate ((l.length+1)-i) (⟨0,0,0,0,(⟨0,0⟩:Dot),0⟩:Cen)).drop (i+[x].length)).length) c5) (((l.take i++List.replicate ((l.length+1)-i) (⟨0,0,0,0,(⟨0,0⟩:Dot),0⟩:Cen)).take i++[x]++(l.take i++List.replicate ((l.length+1)-i) (⟨0,0,0,0,(⟨0,0⟩:Dot),0⟩:Cen)).drop (i+[x].length)).map cec) 106 7)]) [] (by kernel_rfl) hs ⟨?_,?_,?_,?_,?_,?_,?_,?_,?_,trivial⟩ ?_)))))))))))))
  ·exact oa [] fun D J w hs=>Qac (V:=.slice a5 ((l.take i++List.replicate ((l.length+1)-i) (⟨0,0,0,0,(⟨0,0⟩:Dot),0⟩:Cen)).length) c5) rfl (Zz hs)
  ·exact oa [] fun D J w hs=>Qac (V:=.int .i64 (i:Int)) rfl (Zz hs)
  ·exact oa [] fun D J w hs=>Qac (V:=.int .i64 1) rfl (Zz hs)
  ·exact oa [1,2] fun D J w hs=>QaD (a:=(i:Int)) (b:=1) (c:=((i+1:Nat):Int)) rfl rfl (Qaj (by omega) (by omega)) (Zz hs)
  ·exact oa [0,3] fun D J w hs=>QdI (l:=i+1) (h:=(l.take i++List.replicate ((l.length+1)-i) (⟨0,0,0,0,(⟨0,0⟩:Dot),0⟩:Cen)).length) (n':=((l.take i++List.replicate ((l.length+1)-i) (⟨0,0,0,0,(⟨0,0⟩:Dot),0⟩:Cen)).length)-(i+1)) QcO QaA.1 (by omega) rfl (.inr ⟨_,_,rfl,rfl⟩) (.inl ⟨rfl,rfl⟩) (by omega) (by omega) (by omega) (Zz hs)
  ·exact oa [] fun D J w hs=>Qac (V:=.slice a l.length c) rfl (Zz hs)
  ·exact oa [] fun D J w hs=>Qac (V:=.int .i64 (i:Int)) rfl (Zz hs)
  ·exact oa [5,6] fun D J w hs=>Qk2 (l:=i) (h:=l.length) (m:=c) (n':=(l.drop i).length) QcO QaA.1 (hs.rd 0 rfl) rfl (.inr ⟨_,_,rfl,rfl⟩) (.inl ⟨rfl,rfl⟩) (.inl ⟨rfl,rfl⟩) (by omega) (by omega) (Nat.le_trans (show l.length<=l.length by omega) (Rd.roomM (hs.rd 0 rfl))) (Nat.le_refl _) (by simp only [List.length_take,List.length_drop]<;>omega) (Zz hs)
  ·exact oa [4,7] fun D J w hs=>Qc7 (lo:=i+1) (ms:=(l.drop i).map cec) (ls':=(((l.take i++List.replicate ((l.length+1)-i) (⟨0,0,0,0,(⟨0,0⟩:Dot),0⟩:Cen)).take i++[x]++(l.take i++List.replicate ((l.length+1)-i) (⟨0,0,0,0,(⟨0,0⟩:Dot),0⟩:Cen)).drop (i+[x].length)).take (i+1)++l.drop i++((l.take i++List.replicate ((l.length+1)-i) (⟨0,0,0,0,(⟨0,0⟩:Dot),0⟩:Cen)).take i++[x]++(l.take i++List.replicate ((l.length+1)-i) (⟨0,0,0,0,(⟨0,0⟩:Dot),0⟩:Cen)).drop (i+[x].length)).drop (i+1+(l.drop i).length)).map cec) (n':=(((l.take i++List.replicate ((l.length+1)-i) (⟨0,0,0,0,(⟨0,0⟩:Dot),0⟩:Cen)).take i++[x]++(l.take i++List.replicate ((l.length+1)-i) (⟨0,0,0,0,(⟨0,0⟩:Dot),0⟩:Cen)).drop (i+[x].length)).take (i+1)++l.drop i++((l.take i++List.replicate ((l.length+1)-i) (⟨0,0,0,0,(⟨0,0⟩:Dot),0⟩:Cen)).take i++[x]++(l.take i++List.replicate ((l.length+1)-i) (⟨0,0,0,0,(⟨0,0⟩:Dot),0⟩:Cen)).drop (i+[x].length)).drop (i+1+(l.drop i).length)).length) QeR hs 1 rfl rfl rfl (by simp only [QQ6,List.length_drop,List.length_take,List.length_cons,List.length_nil,QQ7,List.length_replicate];omega) (Rd.srcs (Rd.dropM (hs.rd 0 rfl) i hi _ rfl)) (Qbj (enc:=cec) (fun _=>rfl) _) (QaV Qbi _) (by simp only [QQ6,List.length_drop,List.length_take,List.length_cons,List.length_nil,QQ7,List.length_replicate];omega) (by simp only [QQ6,List.length_drop,List.length_take,List.length_cons,List.length_nil,QQ7,List.length_replicate];omega) (by simp only [List.map_append,List.map_take,List.map_drop,List.map_cons,List.map_nil,QQ6,List.length_drop,List.length_take,List.length_cons,List.length_nil]) (by rw [QQ6]) fun _ hs=>⟨rfl,hs⟩
  rintro J1 w9 J2 hJ hs
  replace hJ:J2=mix (sq 46 9) J1 _:=hJ
  replace hs:Own w S w9 [row (.slice a l.length c) (l.map cec) 106 7,row (.slice a5 ((((l.take i++List.replicate ((l.length+1)-i) (⟨0,0,0,0,(⟨0,0⟩:Dot),0⟩:Cen)).take i++[x]++(l.take i++List.replicate ((l.length+1)-i) (⟨0,0,0,0,(⟨0,0⟩:Dot),0⟩:Cen)).drop (i+[x].length)).take (i+1)++l.drop i++((l.take i++List.replicate ((l.length+1)-i) (⟨0,0,0,0,(⟨0,0⟩:Dot),0⟩:Cen)).take i++[x]++(l.take i++List.replicate ((l.length+1)-i) (⟨0,0,0,0,(⟨0,0⟩:Dot),0⟩:Cen)).drop (i+[x].length)).drop (i+1+(l.drop i).length)).length) c5) ((((l.take i++List.replicate ((l.length+1)-i) (⟨0,0,0,0,(⟨0,0⟩:Dot),0⟩:Cen)).take i++[x]++(l.take i++List.replicate ((l.length+1)-i) (⟨0,0,0,0,(⟨0,0⟩:Dot),0⟩:Cen)).drop (i+[x].length)).take (i+1)++l.drop i++((l.take i++List.replicate ((l.length+1)-i) (⟨0,0,0,0,(⟨0,0⟩:Dot),0⟩:Cen)).take i++[x]++(l.take i++List.replicate ((l.length+1)-i) (⟨0,0,0,0,(⟨0,0⟩:Dot),0⟩:Cen)).drop (i+[x].length)).drop (i+1+(l.drop i).length)).map cec) 106 7]:=hs
  subst hJ
  refine Qag (Qab (Qaa (Qac (V:=.slice a5 ((l.take i++List.replicate ((l.length+1)-i) (⟨0,0,0,0,(⟨0,0⟩:Dot),0⟩:Cen)).length) c5) rfl (Qaa (Qad (V:=.slice a5 ((l.take i++List.replicate ((l.length+1)-i) (⟨0,0,0,0,(⟨0,0⟩:Dot),0⟩:Cen)).length) c5) rfl (Qae (Qav ?_)))))))
  refine ⟨_,Qaq (V:=.slice a5 ((l.take i++List.replicate ((l.length+1)-i) (⟨0,0,0,0,(⟨0,0⟩:Dot),0⟩:Cen)).length) c5) Tryz.results121 rfl,?_⟩
  have hX:((l.take i++List.replicate ((l.length+1)-i) (⟨0,0,0,0,(⟨0,0⟩:Dot),0⟩:Cen)).take i++[x]++(l.take i++List.replicate ((l.length+1)-i) (⟨0,0,0,0,(⟨0,0⟩:Dot),0⟩:Cen)).drop (i+[x].length)).take (i+1)++l.drop i++((l.take i++List.replicate ((l.length+1)-i) (⟨0,0,0,0,(⟨0,0⟩:Dot),0⟩:Cen)).take i++[x]++(l.take i++List.replicate ((l.length+1)-i) (⟨0,0,0,0,(⟨0,0⟩:Dot),0⟩:Cen)).drop (i+[x].length)).drop (i+1+(l.drop i).length)=Qdm l i x:=Qke hi
  rw [hX] at hs
  exact ⟨(a5,c5),by rw [hq9,QfG hi],hs.only 1 rfl,trivial⟩
 replace c4:=QQ2 c4
 refine Qap (Qag (Qab (Qaa (Qac (V:=.slice a l.length c) rfl (Qaa (Qac (V:=I6 ((l.length:Nat):Int)) rfl (Qaa (Qac (V:=I6 1) rfl (Qaa (QaD (a:=((l.length:Nat):Int)) (b:=1) (c:=((l.length+1:Nat):Int)) rfl rfl (Qaj (by omega) (by omega)) (Qaa (QaX (V:=.slice (sla a 0 c 7) (l.length+1) (c-0)) (V':=.slice a (l.length+1) c) (QdI (l:=0) (h:=l.length+1) (n':=l.length+1) QcO QaA.1 (by omega) rfl (.inl ⟨rfl,rfl⟩) (.inr ⟨_,_,rfl,rfl⟩) (by omega) (by omega) (by omega) ⟨rfl,rfl⟩) (by rw [QeU];rfl) (Qaa (Qad (V:=.slice a (l.length+1) c) rfl (Qae (Qag (Qag (Qab (Qaa (Qac (V:=.slice b 1 c2) rfl (Qaa (Qac (V:=.slice a (l.length+1) c) rfl (Qaa (Qac (V:=I6 (i:Int)) rfl (Qaa (Qac (V:=I6 1) rfl (Qaa (QaD (a:=(i:Int)) (b:=1) (c:=((i+1:Nat):Int)) rfl rfl (Qaj (by omega) (by omega)) (Qaa (QdI (l:=i+1) (h:=l.length+1) (n':=(l.length+1)-(i+1)) QcO QaA.1 (by omega) rfl (.inr ⟨_,_,rfl,rfl⟩) (.inl ⟨rfl,rfl⟩) (by omega) (by omega) (by omega) (Qaa (Qnv (f:=154) (tR:=4) (lo:=i+1) Tryz.func154 (by kernel_rfl) (by kernel_rfl) (by kernel_rfl) (by kernel_rfl) QcO QaA.1 rfl hs 0 rfl (by rw [QQ6];omega) (by decide) rfl (hpl.own hs hnS) hnS hvb (by omega) rfl (Qaa (Qbx rfl (Qae (QcB rfl ?_))))))))))))))))))))))))))))))))))))
 refine Qag (QaH HM [some 69,some 70,some 71,some 72,some 73,some 74,some 75,some 76,some 77] [] [0,0,0,6,15,0,0,96,255] [pv (.slice a (l.length+1) c),pv (I6 (i:Int)),pv (I6 1),pv (I6 ((i+1:Nat):Int)),pv (.slice (sla a (i+1) c 7) ((l.length+1)-(i+1)) (c-(i+1))),pv (.slice a (l.length+1) c),pv (I6 (i:Int)),pv (.slice (sla a i c 7) ((l.length+1)-i) (c-i)),pv (I6 (((List.map cec (l.drop i)).length:Nat):Int))] (fun D J=>[cond (D 8) (row (.slice a ((l.take (i+1)++l.drop i++l.drop (i+1+(l.drop i).length)).length) c) ((l.take (i+1)++l.drop i++l.drop (i+1+(l.drop i).length)).map cec) 106 7) (row (.slice a l.length c) (l.map cec) 106 7)]) [] (by kernel_rfl) hs ⟨?_,?_,?_,?_,?_,?_,?_,?_,?_,trivial⟩ ?_)
 ·exact oa [] fun D J w hs=>Qac (V:=.slice a (l.length+1) c) rfl (Zz hs)
 ·exact oa [] fun D J w hs=>Qac (V:=.int .i64 (i:Int)) rfl (Zz hs)
 ·exact oa [] fun D J w hs=>Qac (V:=.int .i64 1) rfl (Zz hs)
 ·exact oa [1,2] fun D J w hs=>QaD (a:=(i:Int)) (b:=1) (c:=((i+1:Nat):Int)) rfl rfl (Qaj (by omega) (by omega)) (Zz hs)
 ·exact oa [0,3] fun D J w hs=>QdI (l:=i+1) (h:=l.length+1) (n':=(l.length+1)-(i+1)) QcO QaA.1 (by omega) rfl (.inr ⟨_,_,rfl,rfl⟩) (.inl ⟨rfl,rfl⟩) (by omega) (by omega) (by omega) (Zz hs)
 ·exact oa [] fun D J w hs=>Qac (V:=.slice a (l.length+1) c) rfl (Zz hs)
 ·exact oa [] fun D J w hs=>Qac (V:=.int .i64 (i:Int)) rfl (Zz hs)
 ·exact oa [5,6] fun D J w hs=>QdI (l:=i) (h:=l.length+1) (n':=(l.length+1)-i) QcO QaA.1 (by omega) rfl (.inr ⟨_,_,rfl,rfl⟩) (.inl ⟨rfl,rfl⟩) (by omega) (by omega) (by omega) (Zz hs)
 ·exact oa [4,7] fun D J w hs=>Qc7 (lo:=i+1) (ms:=(l.drop i).map cec) (ls':=(l.take (i+1)++l.drop i++l.drop (i+1+(l.drop i).length)).map cec) (n':=(l.take (i+1)++l.drop i++l.drop (i+1+(l.drop i).length)).length) QeR hs 0 rfl rfl rfl (by simp only [QQ6,List.length_drop,List.length_take,List.length_cons,List.length_nil,QQ7,List.length_replicate];omega) (Rd.srcs (Rd.dropM (hs.rd 0 rfl) i hi _ rfl)) (Qbj (enc:=cec) (fun _=>rfl) _) (QaV Qbi _) (by simp only [QQ6,List.length_drop,List.length_take,List.length_cons,List.length_nil,QQ7,List.length_replicate];omega) (by simp only [QQ6,List.length_drop,List.length_take,List.length_cons,List.length_nil,QQ7,List.length_replicate];omega) (by simp only [List.map_append,List.map_take,List.map_drop,List.map_cons,List.map_nil,QQ6,List.length_drop,List.length_take,List.length_cons,List.length_nil]) (by rw [QQ6]) fun _ hs=>⟨rfl,hs⟩
 rintro J1 w11 J2 hJ hs
 replace hJ:J2=mix (sq 69 9) J1 _:=hJ
 replace hs:Own w S w11 [row (.slice a ((l.take (i+1)++l.drop i++l.drop (i+1+(l.drop i).length)).length) c) ((l.take (i+1)++l.drop i++l.drop (i+1+(l.drop i).length)).map cec) 106 7]:=hs
 subst hJ
 refine Qag (Qab (Qaa (Qac (V:=.slice a (l.length+1) c) rfl (Qaa (Qac (V:=I6 (i:Int)) rfl (Qaa (QdI (l:=i) (h:=l.length+1) (n':=(l.length+1)-i) QcO QaA.1 (by omega) rfl (.inr ⟨_,_,rfl,rfl⟩) (.inl ⟨rfl,rfl⟩) (by omega) (by omega) (by omega) (Qaa (Qac (V:=.slice b 1 c2) rfl (Qaa (Qc7 (lo:=i) (ms:=[x].map cec) (ls':=((l.take (i+1)++l.drop i++l.drop (i+1+(l.drop i).length)).take i++[x]++(l.take (i+1)++l.drop i++l.drop (i+1+(l.drop i).length)).drop (i+[x].length)).map cec) (n':=((l.take (i+1)++l.drop i++l.drop (i+1+(l.drop i).length)).take i++[x]++(l.take (i+1)++l.drop i++l.drop (i+1+(l.drop i).length)).drop (i+[x].length)).length) QeR hs 0 rfl rfl rfl (by simp only [QQ6,List.length_drop,List.length_take,List.length_cons,List.length_nil,QQ7,List.length_replicate];omega) (Rd.srcs (hvo _ _ hs)) (Qbj (enc:=cec) (fun _=>rfl) _) (QaV Qbi _) (by simp only [QQ6,List.length_drop,List.length_take,List.length_cons,List.length_nil,QQ7,List.length_replicate];omega) (by simp only [QQ6,List.length_drop,List.length_take,List.length_cons,List.length_nil,QQ7,List.length_replicate];omega) (by simp only [List.map_append,List.map_take,List.map_drop,List.map_cons,List.map_nil,QQ6,List.length_drop,List.length_take,List.length_cons,List.length_nil]) (by rw [QQ6]) fun w12 hs=>(Qae (Qag (Qab (Qaa (Qac (V:=.slice a (l.length+1) c) rfl (Qaa (Qad (V:=.slice a (l.length+1) c) rfl (Qae (Qav ?_))))))))))))))))))))
 refine ⟨_,Qaq (V:=.slice a (l.length+1) c) Tryz.results121 rfl,?_⟩
 have hX:(l.take (i+1)++l.drop i++l.drop (i+1+(l.drop i).length)).take i++[x]++(l.take (i+1)++l.drop i++l.drop (i+1+(l.drop i).length)).drop (i+[x].length)=Qdm l i x:=Qjv (by omega)
 rw [hX] at hs
 exact ⟨(a,c),by rw [QfG hi],hs.only 0 rfl,trivial⟩
end Tt
end Go.Proofs
namespace Go.Proofs
open Go Go.Vx Go.RowKit
namespace Tt
theorem Qmw (w:World) (s:Sta) (a1:Option Addr) (c1:Nat) (a2:Option Addr) (c2:Nat) (o:Opn) (hO:Qb8 o) (hok:Qdq s) (hle:s.ents.length<=1000) (hlt:s.ticks.length<=1000) (hr1:Rd w (.slice a1 s.ents.length c1) 7 (s.ents.map cec)) (hr2:Rd w (.slice a2 s.ticks.length c2) 2 (s.ticks.map lsc)):Calls Tryz.prog 72 #[.agg ((vc s.known)++[(.slice a1 s.ents.length c1:Value),(.slice a2 s.ticks.length c2:Value) ]).toArray,.agg (oc o).toArray] w (fun e w'=>∃ x:(Option Addr × Nat) × (Option Addr × Nat),e = .returned (.tuple #[.agg (vc (QaT s o).known++[(.slice x.1.1 (QaT s o).ents.length x.1.2:Value),(.slice x.2.1 (QaT s o).ticks.length x.2.2:Value)]).toArray,.int .i64 (QcH s o)])/\Own w no w' [row (.slice x.1.1 (QaT s o).ents.length x.1.2) ((QaT s o).ents.map cec) 106 7,row (.slice x.2.1 (QaT s o).ticks.length x.2.2) ((QaT s o).ticks.map lsc) 102 2]/\True):=by
 refine Qai (n:=85) Tryz.func72 rfl Tryz.ntmps72 rfl ?_
 have hs:=Own.start w
 have ⟨hdo,_,_,_,_,_,hctx⟩:=hO
 have ⟨hv0,hE0,hT0⟩:=hok
 refine Qag (Qab (Qaa (Qa4 (V:=.agg ((vc s.known)++[(.slice a1 s.ents.length c1:Value),(.slice a2 s.ticks.length c2:Value) ]).toArray) (cs:=(vc s.known)++[(.slice a1 s.ents.length c1:Value),(.slice a2 s.ticks.length c2:Value) ]) rfl rfl hs fun b1 w2 hs=>(Qaa (Qa4 (V:=.agg (oc o).toArray) (cs:=oc o) rfl rfl hs fun b3 w4 hs=>(Qaa (QaL (cs:=(vc vzero)++[(.slice none 0 0:Value),(.slice none 0 0:Value) ]) Qfr rfl hs fun b5 w6 hs=>(Qaa (Qad (V:=I6 0) rfl (Qae (Qag (Qag (Qab (Qaa (QaO (cs:=(vc s.known)++[(.slice a1 s.ents.length c1:Value),(.slice a2 s.ticks.length c2:Value) ]) QbS hs 0 rfl rfl rfl (Qaa (Qas (vs:=[.agg ((vc s.known)++[(.slice a1 s.ents.length c1:Value),(.slice a2 s.ticks.length c2:Value) ]).toArray]) (V:=.bool (Qau s)) Qoo rfl rfl ?hc hs fun w7 hs=>?_)))))))))))))))))
 case hc=>exact (QeK _ s a1 c1 a2 c2 hok (by omega) (by omega) (Rd.own' hr1 hs) (Rd.own' hr2 hs))
 refine Qaa (Qbx rfl (Qae (Qam (t:=!(Qau s)) rfl (fun c8=>?_) (fun c8=>?_))))
 ·
  replace c8:=Qby c8
  refine Qag (Qab (Qaa (Qcr (vs:=[]) (cs:=(vc vzero)++[(.slice none 0 0:Value),(.slice none 0 0:Value) ]) [vc vzero,[(.slice none 0 0:Value)],[(.slice none 0 0:Value)]] [vc vzero,[(.slice none 0 0:Value)],[(.slice none 0 0:Value)]] Qk7 rfl (rfl) rfl rfl (Qaa (QcG (V:=.agg ((vc vzero)++[(.slice none 0 0:Value),(.slice none 0 0:Value) ]).toArray) (vs:=(vc vzero)++[(.slice none 0 0:Value),(.slice none 0 0:Value) ]) (cs':=(vc vzero)++[(.slice none 0 0:Value),(.slice none 0 0:Value) ]) QbS.1 hs 2 rfl rfl rfl rfl rfl (QQ8 rfl) (Qbh (QbQ _) (Qat rfl (Qat rfl Qa1))) (Qaz rfl) fun w9 hs=>?_)))))
  replace hs:Own w no w9 [blk b1 ((vc s.known)++[(.slice a1 s.ents.length c1:Value),(.slice a2 s.ticks.length c2:Value) ]) 38,blk b3 (oc o) 98,blk b5 ((vc vzero)++[(.slice none 0 0:Value),(.slice none 0 0:Value) ]) 38]:=hs
  refine Qaa (Qad (V:=I6 2) rfl (Qae (Qav ?_)))
  refine ⟨_,Qci (cs:=(vc vzero)++[(.slice none 0 0:Value),(.slice none 0 0:Value) ]) (V:=I6 2) Tryz.results72 QbS hs 2 rfl rfl rfl rfl,?_⟩
  have hI:QcH s o=2:=by unfold QcH;rw [if_neg (by rw [c8];decide)]
  have hR:QaT s o=szero:=by unfold QaT;rw [if_neg (by rw [hI];decide)]
  rw [hI,hR]
  exact ⟨((none,0),(none,0)),rfl,((hs.take 0).more _ (Qba _ _ 106 7)).more _ (Qba _ _ 102 2),trivial⟩
 replace c8:=Qbr c8
 refine Qap (Qag (Qag (Qab (Qaa (Qaf Qel rfl (Qaa (QbT (vs:=vc s.known) Qbu hs 0 rfl rfl rfl rfl (Qaa (QaO (cs:=oc o) QbB hs 1 rfl rfl rfl (Qaa (Qas (vs:=[.agg (vc s.known).toArray,.agg (oc o).toArray]) (V:=I6 (QbD s.known o)) Qsj rfl rfl ?hc hs fun w10 hs=>?_)))))))))))
 case hc=>exact (QlM _ s.known o (by assumption))
 refine Qaa (Qad (V:=I6 (QbD s.known o)) rfl (Qae (Qag (Qab (Qaa (Qac (V:=I6 (QbD s.known o)) rfl (Qaa (QcC rfl rfl (Qae (Qam (t:=!decide (QbD s.known o=0)) rfl (fun c11=>?_) (fun c11=>?_)))))))))))
 ·
  replace c11:=Qby c11
  replace c11:=QQ2 c11
  refine Qag (Qab (Qaa (Qcr (vs:=[]) (cs:=(vc vzero)++[(.slice none 0 0:Value),(.slice none 0 0:Value) ]) [vc vzero,[(.slice none 0 0:Value)],[(.slice none 0 0:Value)]] [vc vzero,[(.slice none 0 0:Value)],[(.slice none 0 0:Value)]] Qk7 rfl (rfl) rfl rfl (Qaa (Qac (V:=I6 (QbD s.known o)) rfl (Qaa (QcG (V:=.agg ((vc vzero)++[(.slice none 0 0:Value),(.slice none 0 0:Value) ]).toArray) (vs:=(vc vzero)++[(.slice none 0 0:Value),(.slice none 0 0:Value) ]) (cs':=(vc vzero)++[(.slice none 0 0:Value),(.slice none 0 0:Value) ]) QbS.1 hs 2 rfl rfl rfl rfl rfl (QQ8 rfl) (Qbh (QbQ _) (Qat rfl (Qat rfl Qa1))) (Qaz rfl) fun w12 hs=>?_)))))))
  replace hs:Own w no w12 [blk b1 ((vc s.known)++[(.slice a1 s.ents.length c1:Value),(.slice a2 s.ticks.length c2:Value) ]) 38,blk b3 (oc o) 98,blk b5 ((vc vzero)++[(.slice none 0 0:Value),(.slice none 0 0:Value) ]) 38]:=hs
  refine Qaa (Qad (V:=I6 (QbD s.known o)) rfl (Qae (Qav ?_)))
  refine ⟨_,Qci (cs:=(vc vzero)++[(.slice none 0 0:Value),(.slice none 0 0:Value) ]) (V:=I6 (QbD s.known o)) Tryz.results72 QbS hs 2 rfl rfl rfl rfl,?_⟩
  have hI:QcH s o=QbD s.known o:=by unfold QcH;rw [if_pos c8]
  have hR:QaT s o=szero:=by unfold QaT;rw [if_neg (by rw [hI];exact c11)]
  rw [hI,hR]
  exact ⟨((none,0),(none,0)),rfl,((hs.take 0).more _ (Qba _ _ 106 7)).more _ (Qba _ _ 102 2),trivial⟩
 replace c11:=Qbr c11
 replace c11:=QQ1 c11
 refine Qap (Qag (Qab (Qaa (QaO (cs:=(vc s.known)++[(.slice a1 s.ents.length c1:Value),(.slice a2 s.ticks.length c2:Value) ]) QbS hs 0 rfl rfl rfl (Qaa (Qbm (α:=(Option Addr × Nat) × (Option Addr × Nat)) (vs:=[.agg ((vc s.known)++[(.slice a1 s.ents.length c1:Value),(.slice a2 s.ticks.length c2:Value) ]).toArray]) Qtn rfl rfl (Qrn _ s a1 c1 a2 c2 hok (by omega) (by omega) (Rd.own' hr1 hs) (Rd.own' hr2 hs)) hs fun x13 w14 hs _=>?_))))))
 replace hs:Own w no w14 [blk b1 ((vc s.known)++[(.slice a1 s.ents.length c1:Value),(.slice a2 s.ticks.length c2:Value) ]) 38,blk b3 (oc o) 98,blk b5 ((vc vzero)++[(.slice none 0 0:Value),(.slice none 0 0:Value) ]) 38,row (.slice x13.1.1 s.ents.length x13.1.2) (s.ents.map cec) 106 7,row (.slice x13.2.1 s.ticks.length x13.2.2) (s.ticks.map lsc) 102 2]:=hs
 refine Qaa (QaL (cs:=(vc vzero)++[(.slice none 0 0:Value),(.slice none 0 0:Value) ]) Qfr rfl hs fun b15 w16 hs=>(Qaa (QcG (V:=.agg ((vc s.known)++[(.slice x13.1.1 s.ents.length x13.1.2:Value),(.slice x13.2.1 s.ticks.length x13.2.2:Value) ]).toArray) (vs:=(vc s.known)++[(.slice x13.1.1 s.ents.length x13.1.2:Value),(.slice x13.2.1 s.ticks.length x13.2.2:Value) ]) (cs':=(vc s.known)++[(.slice x13.1.1 s.ents.length x13.1.2:Value),(.slice x13.2.1 s.ticks.length x13.2.2:Value) ]) QbS.1 hs 5 rfl rfl rfl rfl rfl (QQ8 rfl) (Qbh (QbQ _) (Qat rfl (Qat rfl Qa1))) (Qaz rfl) fun w17 hs=>(Qae (Qag ?_)))))
 have hrc:=Qdt.1 c8
 have hrd:=Qg4 hO c11
 have ⟨hd0,hd1,hd2,hd3⟩:=hrd.1
 have hfd:=Qnd hrc hrd.2
 refine Qab (Qaa (Qaf Qbl rfl (Qaa (Qaf QbV rfl (Qaa (QaP (V:=.int .u8 o.dot.rep) Qds hs 1 rfl rfl rfl (Qaa (Qaf Qbl rfl (Qaa (Qaf QbX rfl (Qaa (QaP (V:=.int .u32 o.dot.seq) QaN hs 1 rfl rfl rfl (Qaa (Qaf Qel rfl (Qaa (Qbo QdH QaN.1 rfl rfl (by omega) (by omega) (Qaa (QcQ (V:=.int .u32 o.dot.seq) (cs':=(vc (vset s.known o.dot.rep.toNat o.dot.seq))++[(.slice x13.1.1 s.ents.length x13.1.2:Value),(.slice x13.2.1 s.ticks.length x13.2.2:Value) ]) QaN hs 5 rfl rfl rfl rfl (Qsk (by omega)) (QrU (by omega) (by omega)) fun w18 hs=>(Qae (Qag (Qab (Qaa (Qaf Qc4 rfl (Qaa (QaP (V:=.slice x13.1.1 s.ents.length x13.1.2) Qgf hs 5 rfl rfl rfl (Qaa (QcX (cs:=[Pq b3 0]) rfl rfl (Qaa (Qrc (α:=Unit) (vs:=[.slice x13.1.1 s.ents.length x13.1.2,.func (.func 117) #[] #[Pq b3 0]]) (V:=fun _=>.slice x13.1.1 (s.ents.filter fun x=>!(fun x=>QaB o (QaE x)) x).length x13.1.2) (R:=row (.slice x13.1.1 s.ents.length x13.1.2) (s.ents.map cec) 106 7) (R':=fun _=>row (.slice x13.1.1 (s.ents.filter fun x=>!(fun x=>QaB o (QaE x)) x).length x13.1.2) ((s.ents.filter fun x=>!(fun x=>QaB o (QaE x)) x).map cec) 106 7) (Lo:=fun _=>[]) (F:=fun _ _=>True) Qt1 rfl rfl hs 3 1 (by decide) rfl rfl (fun S hS hlS hSb hc=>QhL _ S x13.1.1 x13.1.2 s.ents 117 [Pq b3 0] QsI (fun x=>QaB o (QaE x)) (fun w1 L1 h x hx=>Qms w1 x o b3 (hE0 x hx).2.2.2.2.1 (hc.own h hSb)) hS hlS) fun _ w19 hs _=>?_)))))))))))))))))))))))))))))
 replace hs:Own w no w19 [blk b1 ((vc s.known)++[(.slice a1 s.ents.length c1:Value),(.slice a2 s.ticks.length c2:Value) ]) 38,blk b3 (oc o) 98,blk b5 ((vc vzero)++[(.slice none 0 0:Value),(.slice none 0 0:Value) ]) 38,row (.slice x13.1.1 ((s.ents.filter fun x=>!(fun x=>QaB o (QaE x)) x).length) x13.1.2) ((s.ents.filter fun x=>!(fun x=>QaB o (QaE x)) x).map cec) 106 7,row (.slice x13.2.1 s.ticks.length x13.2.2) (s.ticks.map lsc) 102 2,blk b15 ((vc (vset s.known o.dot.rep.toNat o.dot.seq))++[(.slice x13.1.1 s.ents.length x13.1.2:Value),(.slice x13.2.1 s.ticks.length x13.2.2:Value) ]) 38]:=hs
 refine Qaa (Qaf Qc4 rfl (Qaa (QcQ (V:=.slice x13.1.1 ((s.ents.filter fun x=>!(fun x=>QaB o (QaE x)) x).length) x13.1.2) (cs':=(vc (vset s.known o.dot.rep.toNat o.dot.seq))++[(.slice x13.1.1 ((s.ents.filter fun x=>!(fun x=>QaB o (QaE x)) x).length) x13.1.2:Value),(.slice x13.2.1 s.ticks.length x13.2.2:Value) ]) Qgf hs 5 rfl rfl rfl rfl (QQ8 rfl) rfl fun w20 hs=>(Qae (Qag (Qag (Qbq [some 38,some 39,some 40,some 41,some 42,some 43,some 44,some 45,some 46,some 47,some 48,some 49,some 50] [] [0,1,3,7,15,31,63,127,255,511,1023,2047,4095] [pv (Pq b3 (0+2)),pv (.int .u8 o.kind),pv (.bool (decide (o.kind=1))),pv (.bool (decide (o.kind=1))),pg ((decide (o.kind=1)) == false) (Pq b3 (0+2)),pg ((decide (o.kind=1)) == false) (.int .u8 o.kind),pg ((decide (o.kind=1)) == false) (.bool (decide (o.kind=2))),pv (.bool ((decide (o.kind=1))||(decide (o.kind=2)))),pv (.bool ((decide (o.kind=1))||(decide (o.kind=2)))),pg (((decide (o.kind=1))||(decide (o.kind=2))) == false) (Pq b3 (0+2)),pg (((decide (o.kind=1))||(decide (o.kind=2))) == false) (.int .u8 o.kind),pg (((decide (o.kind=1))||(decide (o.kind=2))) == false) (.bool (decide (o.kind=4))),pv (.bool (QbA o))] (fun _ _=>_) [12] (by kernel_rfl) hs ⟨?_,?_,?_,?_,?_,?_,?_,?_,?_,?_,?_,?_,?_,trivial⟩ ?_)))))))
 ·exact oa [] fun D J w hs=>Qaf Qcc rfl (Zz hs)
 ·exact oa [0] fun D J w hs=>QaP (V:=.int .u8 o.kind) Qds hs 1 rfl rfl rfl (Zz hs)
 ·exact oa [1] fun D J w hs=>QaW rfl rfl (Zz hs)
 ·exact oa [2] fun D J w hs=>Qac (V:=.bool (decide (o.kind=1))) rfl (Zz hs)
 ·exact og [3] fun D J w hG hs=>Qaf Qcc rfl (Zz hs)
 ·exact oy [3,4] [4] fun D J w hG hs=>QaP (V:=.int .u8 o.kind) Qds hs 1 rfl rfl rfl (Zz hs)
 ·exact oy [3,5] [5] fun D J w hG hs=>QaW rfl rfl (Zz hs)
 ·exact oa [3,6] fun D J w hs=>Qb2 (h':=decide (o.kind=2)) rfl rfl rfl (Zz hs)
 ·exact oa [7] fun D J w hs=>Qac (V:=.bool ((decide (o.kind=1))||(decide (o.kind=2)))) rfl (Zz hs)
 ·exact og [8] fun D J w hG hs=>Qaf Qcc rfl (Zz hs)
 ·exact oy [8,9] [9] fun D J w hG hs=>QaP (V:=.int .u8 o.kind) Qds hs 1 rfl rfl rfl (Zz hs)
 ·exact oy [8,10] [10] fun D J w hG hs=>QaW rfl rfl (Zz hs)
 ·exact oa [8,11] fun D J w hs=>QaX (V:=.bool (((decide (o.kind=1))||(decide (o.kind=2)))||(decide (o.kind=4)))) (V':=.bool (QbA o)) (Qb2 (h':=decide (o.kind=4)) rfl rfl rfl ⟨rfl,rfl⟩) (congrArg Value.bool (Qnm o)) (Zz hs)
 rintro J1 w21 J2 hJ hs
 replace hJ:J2=upd (mix (sq 38 13) J1 _) 50 (.bool (QbA o)):=hJ
 subst hJ
 refine Qfs (fun J J' w'=>∃ (Jo:Env) (a9:Option Addr) (c9:Nat) (L9:List Cen),J'=mix ([8,9,10]++sq 51 27) Jo J/\(L9=(QdM s o).ents)/\Own w no w' [blk b1 ((vc s.known)++[(.slice a1 s.ents.length c1:Value),(.slice a2 s.ticks.length c2:Value) ]) 38,blk b3 (oc o) 98,blk b5 ((vc vzero)++[(.slice none 0 0:Value),(.slice none 0 0:Value) ]) 38,row (.slice a9 L9.length c9) (L9.map cec) 106 7,row (.slice x13.2.1 s.ticks.length x13.2.2) (s.ticks.map lsc) 102 2,blk b15 ((vc (vset s.known o.dot.rep.toNat o.dot.seq))++[(.slice a9 L9.length c9:Value),(.slice x13.2.1 s.ticks.length x13.2.2:Value) ]) 38]) ?_ ?_
 ·
  refine Qam (t:=QbA o) rfl (fun c22=>?_) (fun c22=>?_)
  ·
   refine Qag ?_
   replace hs:=hs.more emp trivial
   refine QaH HM [some 51,some 52,some 53,some 54,some 55,some 56,some 57,some 58,some 59,some 60,some 61,some 62,some 63,some 8,none] [[],[],[],[],[],[],[],[],[],[],[],[],[],[8]] [0,1,0,4,0,16,0,64,0,256,0,1024,4095,0,16383] [pv (Pq b3 (0+3)),pv (I7 o.cart),pv (Pq b3 (0+4)),pv (I7 o.item),pv (Pq b3 (0+5)),pv (I7 o.qty),pv (Pq b3 (0+2)),pv (.int .u8 o.kind),pv (Pq b3 (0+0)),pv (.agg (dc o.dot).toArray),pv (.agg (oc o).toArray),pv (.int .u64 (QbG o)),pv (.agg (cec (⟨o.cart,o.item,o.qty,o.kind,o.dot,QbG o⟩:Cen)).toArray),(true,fun J=>.pointer (some ⟨(bOf (J 8)),0,none⟩)),pn] (fun D J=>[blk b1 ((vc s.known)++[(.slice a1 s.ents.length c1:Value),(.slice a2 s.ticks.length c2:Value) ]) 38,blk b3 (oc o) 98,blk b5 ((vc vzero)++[(.slice none 0 0:Value),(.slice none 0 0:Value) ]) 38,row (.slice x13.1.1 ((s.ents.filter fun x=>!(fun x=>QaB o (QaE x)) x).length) x13.1.2) ((s.ents.filter fun x=>!(fun x=>QaB o (QaE x)) x).map cec) 106 7,row (.slice x13.2.1 s.ticks.length x13.2.2) (s.ticks.map lsc) 102 2,blk b15 ((vc (vset s.known o.dot.rep.toNat o.dot.seq))++[(.slice x13.1.1 ((s.ents.filter fun x=>!(fun x=>QaB o (QaE x)) x).length) x13.1.2:Value),(.slice x13.2.1 s.ticks.length x13.2.2:Value) ]) 38,cond (D 14) (blk (bOf (J 8)) (cec (⟨o.cart,o.item,o.qty,o.kind,o.dot,QbG o⟩:Cen)) 106) (cond (D 13) (blk (bOf (J 8)) (cec (⟨0,0,0,0,(⟨0,0⟩:Dot),0⟩:Cen)) 106) (emp))]) [13] (by kernel_rfl) hs ⟨?_,?_,?_,?_,?_,?_,?_,?_,?_,?_,?_,?_,?_,?_,?_,trivial⟩ ?_
   ·exact oa [] fun D J w hs=>Qaf Qem rfl (Zz hs)
   ·exact oa [0] fun D J w hs=>QaP (V:=.int .u16 o.cart) Qar hs 1 rfl rfl rfl (Zz hs)
   ·exact oa [] fun D J w hs=>Qaf Qdh rfl (Zz hs)
   ·exact oa [2] fun D J w hs=>QaP (V:=.int .u16 o.item) Qar hs 1 rfl rfl rfl (Zz hs)
   ·exact oa [] fun D J w hs=>Qaf Qdj rfl (Zz hs)
   ·exact oa [4] fun D J w hs=>QaP (V:=.int .u16 o.qty) Qar hs 1 rfl rfl rfl (Zz hs)
   ·exact oa [] fun D J w hs=>Qaf Qcc rfl (Zz hs)
   ·exact oa [6] fun D J w hs=>QaP (V:=.int .u8 o.kind) Qds hs 1 rfl rfl rfl (Zz hs)
   ·exact oa [] fun D J w hs=>Qaf Qbl rfl (Zz hs)
   ·exact oa [8] fun D J w hs=>QbT (vs:=dc o.dot) QcE hs 1 rfl rfl rfl rfl (Zz hs)
   ·exact oa [] fun D J w hs=>QaO (cs:=oc o) QbB hs 1 rfl rfl rfl (Zz hs)
   ·exact oa [10] fun D J w hs=>Qas (vs:=[.agg (oc o).toArray]) (V:=.int .u64 (QbG o)) QtC rfl rfl (QhV _ o (by assumption)) hs fun _ hs=>Zz hs
   ·exact oa [1,3,5,7,9,11] fun D J w hs=>QbI (vs:=[(0,.int .u16 o.cart),(1,.int .u16 o.item),(2,.int .u16 o.qty),(3,.int .u8 o.kind),(4,.agg (dc o.dot).toArray),(5,.int .u64 (QbG o))]) (cs:=cec (⟨o.cart,o.item,o.qty,o.kind,o.dot,QbG o⟩:Cen)) QpB (rfl) rfl (Zz hs)
   ·exact ob [] [14] rfl rfl fun D J w hs=>QaL (cs:=cec (⟨0,0,0,0,(⟨0,0⟩:Dot),0⟩:Cen)) Qfn rfl hs fun _ _ hs=>⟨rfl,hs.put 6 (QQ8 rfl)⟩
   ·exact oa [12,13] fun D J w hs=>QcG (V:=.agg (cec (⟨o.cart,o.item,o.qty,o.kind,o.dot,QbG o⟩:Cen)).toArray) (vs:=cec (⟨o.cart,o.item,o.qty,o.kind,o.dot,QbG o⟩:Cen)) (cs':=cec (⟨o.cart,o.item,o.qty,o.kind,o.dot,QbG o⟩:Cen)) QaA.1 hs 6 rfl rfl rfl rfl rfl (QQ8 rfl) (Qbi _) (Qaz rfl) fun _ hs=>⟨trivial,hs⟩
   rintro J1 w26 J2 hJ hs
   replace hJ:J2=upd (mix (sq 51 13++[8]) J1 _) 8 (.pointer (some ⟨(bOf (J1 8)),0,none⟩)):=hJ
   replace hs:Own w no w26 [blk b1 ((vc s.known)++[(.slice a1 s.ents.length c1:Value),(.slice a2 s.ticks.length c2:Value) ]) 38,blk b3 (oc o) 98,blk b5 ((vc vzero)++[(.slice none 0 0:Value),(.slice none 0 0:Value) ]) 38,row (.slice x13.1.1 ((s.ents.filter fun x=>!(fun x=>QaB o (QaE x)) x).length) x13.1.2) ((s.ents.filter fun x=>!(fun x=>QaB o (QaE x)) x).map cec) 106 7,row (.slice x13.2.1 s.ticks.length x13.2.2) (s.ticks.map lsc) 102 2,blk b15 ((vc (vset s.known o.dot.rep.toNat o.dot.seq))++[(.slice x13.1.1 ((s.ents.filter fun x=>!(fun x=>QaB o (QaE x)) x).length) x13.1.2:Value),(.slice x13.2.1 s.ticks.length x13.2.2:Value) ]) 38,blk (bOf (J1 8)) (cec (⟨o.cart,o.item,o.qty,o.kind,o.dot,QbG o⟩:Cen)) 106]:=hs
   generalize (bOf (J1 8))=b27 at hJ hs
   subst hJ
   refine Qag ?_
   have hfl:=List.length_filter_le (fun x=>!(fun x=>QaB o (QaE x)) x) s.ents
   refine Qab (Qaa (Qaf Qc4 rfl (Qaa (QaP (V:=.slice x13.1.1 ((s.ents.filter fun x=>!(fun x=>QaB o (QaE x)) x).length) x13.1.2) Qgf hs 5 rfl rfl rfl (Qaa (QaO (cs:=cec (⟨o.cart,o.item,o.qty,o.kind,o.dot,QbG o⟩:Cen)) QaA hs 6 rfl rfl rfl (Qaa (QjP (vs:=[.slice x13.1.1 ((s.ents.filter fun x=>!(fun x=>QaB o (QaE x)) x).length) x13.1.2,.agg (cec (⟨o.cart,o.item,o.qty,o.kind,o.dot,QbG o⟩:Cen)).toArray,.func (.func 120) #[] #[]]) (V:=.tuple #[I6 ((Qce (fun x=>decide ((fun x:Cen=>QbP x (⟨o.cart,o.item,o.qty,o.kind,o.dot,QbG o⟩:Cen)) x<0)) (s.ents.filter fun x=>!(fun x=>QaB o (QaE x)) x):Nat):Int),.bool (decide (Qce (fun x=>decide ((fun x:Cen=>QbP x (⟨o.cart,o.item,o.qty,o.kind,o.dot,QbG o⟩:Cen)) x<0)) (s.ents.filter fun x=>!(fun x=>QaB o (QaE x)) x)<(s.ents.filter fun x=>!(fun x=>QaB o (QaE x)) x).length)&&decide ((fun x:Cen=>QbP x (⟨o.cart,o.item,o.qty,o.kind,o.dot,QbG o⟩:Cen)) (gd (s.ents.filter fun x=>!(fun x=>QaB o (QaE x)) x) (Qce (fun x=>decide ((fun x:Cen=>QbP x (⟨o.cart,o.item,o.qty,o.kind,o.dot,QbG o⟩:Cen)) x<0)) (s.ents.filter fun x=>!(fun x=>QaB o (QaE x)) x)))=0))]) (V':=.tuple #[I6 ((Qce (QeZ (⟨o.cart,o.item,o.qty,o.kind,o.dot,QbG o⟩:Cen)) (s.ents.filter fun x=>!(fun x=>QaB o (QaE x)) x):Nat):Int),.bool (decide (Qce (QeZ (⟨o.cart,o.item,o.qty,o.kind,o.dot,QbG o⟩:Cen)) (s.ents.filter fun x=>!(fun x=>QaB o (QaE x)) x)<(s.ents.filter fun x=>!(fun x=>QaB o (QaE x)) x).length)&&decide (QbP (gd (s.ents.filter fun x=>!(fun x=>QaB o (QaE x)) x) (Qce (QeZ (⟨o.cart,o.item,o.qty,o.kind,o.dot,QbG o⟩:Cen)) (s.ents.filter fun x=>!(fun x=>QaB o (QaE x)) x))) (⟨o.cart,o.item,o.qty,o.kind,o.dot,QbG o⟩:Cen)=0))]) rfl QsJ rfl rfl (Qld _ x13.1.1 x13.1.2 (s.ents.filter fun x=>!(fun x=>QaB o (QaE x)) x) (⟨o.cart,o.item,o.qty,o.kind,o.dot,QbG o⟩:Cen) (by omega) 120 Qp0 (fun x:Cen=>QbP x (⟨o.cart,o.item,o.qty,o.kind,o.dot,QbG o⟩:Cen)) (fun w x=>Qkl w x (⟨o.cart,o.item,o.qty,o.kind,o.dot,QbG o⟩:Cen)) (QmQ (List.Pairwise.sublist List.filter_sublist hrc.re) (⟨o.cart,o.item,o.qty,o.kind,o.dot,QbG o⟩:Cen)) (hs.rd 3 rfl)) hs fun w28 hs=>(Qaa (Qac (V:=.tuple #[I6 ((Qce (QeZ (⟨o.cart,o.item,o.qty,o.kind,o.dot,QbG o⟩:Cen)) (s.ents.filter fun x=>!(fun x=>QaB o (QaE x)) x):Nat):Int),.bool (decide (Qce (QeZ (⟨o.cart,o.item,o.qty,o.kind,o.dot,QbG o⟩:Cen)) (s.ents.filter fun x=>!(fun x=>QaB o (QaE x)) x)<(s.ents.filter fun x=>!(fun x=>QaB o (QaE x)) x).length)&&decide (QbP (gd (s.ents.filter fun x=>!(fun x=>QaB o (QaE x)) x) (Qce (QeZ (⟨o.cart,o.item,o.qty,o.kind,o.dot,QbG o⟩:Cen)) (s.ents.filter fun x=>!(fun x=>QaB o (QaE x)) x))) (⟨o.cart,o.item,o.qty,o.kind,o.dot,QbG o⟩:Cen)=0))]) rfl (Qaa (Qax (V:=I6 ((Qce (QeZ (⟨o.cart,o.item,o.qty,o.kind,o.dot,QbG o⟩:Cen)) (s.ents.filter fun x=>!(fun x=>QaB o (QaE x)) x):Nat):Int)) rfl rfl (Qaa (Qax (V:=.bool (decide (Qce (QeZ (⟨o.cart,o.item,o.qty,o.kind,o.dot,QbG o⟩:Cen)) (s.ents.filter fun x=>!(fun x=>QaB o (QaE x)) x)<(s.ents.filter fun x=>!(fun x=>QaB o (QaE x)) x).length)&&decide (QbP (gd (s.ents.filter fun x=>!(fun x=>QaB o (QaE x)) x) (Qce (QeZ (⟨o.cart,o.item,o.qty,o.kind,o.dot,QbG o⟩:Cen)) (s.ents.filter fun x=>!(fun x=>QaB o (QaE x)) x))) (⟨o.cart,o.item,o.qty,o.kind,o.dot,QbG o⟩:Cen)=0))) rfl rfl (Qaa (Qad (V:=I6 ((Qce (QeZ (⟨o.cart,o.item,o.qty,o.kind,o.dot,QbG o⟩:Cen)) (s.ents.filter fun x=>!(fun x=>QaB o (QaE x)) x):Nat):Int)) rfl (Qaa (Qad (V:=.bool (decide (Qce (QeZ (⟨o.cart,o.item,o.qty,o.kind,o.dot,QbG o⟩:Cen)) (s.ents.filter fun x=>!(fun x=>QaB o (QaE x)) x)<(s.ents.filter fun x=>!(fun x=>QaB o (QaE x)) x).length)&&decide (QbP (gd (s.ents.filter fun x=>!(fun x=>QaB o (QaE x)) x) (Qce (QeZ (⟨o.cart,o.item,o.qty,o.kind,o.dot,QbG o⟩:Cen)) (s.ents.filter fun x=>!(fun x=>QaB o (QaE x)) x))) (⟨o.cart,o.item,o.qty,o.kind,o.dot,QbG o⟩:Cen)=0))) rfl (Qae ?_)))))))))))))))))))
   have hpe:=Qfy (f:=QeZ (⟨o.cart,o.item,o.qty,o.kind,o.dot,QbG o⟩:Cen)) (l:=s.ents.filter fun x=>!(fun x=>QaB o (QaE x)) x)
   refine Qab (Qaa (Qaf Qc4 rfl (Qaa (QaP (V:=.slice x13.1.1 ((s.ents.filter fun x=>!(fun x=>QaB o (QaE x)) x).length) x13.1.2) Qgf hs 5 rfl rfl rfl (Qaa (Qac (V:=I6 ((Qce (QeZ (⟨o.cart,o.item,o.qty,o.kind,o.dot,QbG o⟩:Cen)) (s.ents.filter fun x=>!(fun x=>QaB o (QaE x)) x):Nat):Int)) rfl (Qaa (QaO (cs:=cec (⟨o.cart,o.item,o.qty,o.kind,o.dot,QbG o⟩:Cen)) QaA hs 6 rfl rfl rfl (Qaa (QhI (vals:=[.agg (cec (⟨o.cart,o.item,o.qty,o.kind,o.dot,QbG o⟩:Cen)).toArray]) (ls:=List.map cec ([(⟨o.cart,o.item,o.qty,o.kind,o.dot,QbG o⟩:Cen)]:List Cen)) QeR rfl rfl rfl (Qbj (enc:=cec) (fun _=>rfl) _) (QaV Qbi _) (QQ8 rfl) hs fun b29 w30 hs=>(Qaa (Qm3 (α:=Option Addr × Nat) (vs:=[.slice x13.1.1 ((s.ents.filter fun x=>!(fun x=>QaB o (QaE x)) x).length) x13.1.2,I6 ((Qce (QeZ (⟨o.cart,o.item,o.qty,o.kind,o.dot,QbG o⟩:Cen)) (s.ents.filter fun x=>!(fun x=>QaB o (QaE x)) x):Nat):Int),.slice (some ⟨b29,0,none⟩) 1 1]) (V:=fun x=>.slice x.1 (Qdm (s.ents.filter fun x=>!(fun x=>QaB o (QaE x)) x) (Qce (QeZ (⟨o.cart,o.item,o.qty,o.kind,o.dot,QbG o⟩:Cen)) (s.ents.filter fun x=>!(fun x=>QaB o (QaE x)) x)) (⟨o.cart,o.item,o.qty,o.kind,o.dot,QbG o⟩:Cen)).length x.2) (R:=row (.slice x13.1.1 ((s.ents.filter fun x=>!(fun x=>QaB o (QaE x)) x).length) x13.1.2) ((s.ents.filter fun x=>!(fun x=>QaB o (QaE x)) x).map cec) 106 7) (R':=fun x=>row (.slice x.1 (Qdm (s.ents.filter fun x=>!(fun x=>QaB o (QaE x)) x) (Qce (QeZ (⟨o.cart,o.item,o.qty,o.kind,o.dot,QbG o⟩:Cen)) (s.ents.filter fun x=>!(fun x=>QaB o (QaE x)) x)) (⟨o.cart,o.item,o.qty,o.kind,o.dot,QbG o⟩:Cen)).length x.2) ((Qdm (s.ents.filter fun x=>!(fun x=>QaB o (QaE x)) x) (Qce (QeZ (⟨o.cart,o.item,o.qty,o.kind,o.dot,QbG o⟩:Cen)) (s.ents.filter fun x=>!(fun x=>QaB o (QaE x)) x)) (⟨o.cart,o.item,o.qty,o.kind,o.dot,QbG o⟩:Cen)).map cec) 106 7) (Lo:=fun _=>[]) (F:=fun _ _=>True) Qs4 rfl rfl hs 3 7 (by decide) rfl rfl (QQ8 rfl) (fun S hS hlt hnS hpl9=>Qnj _ S x13.1.1 x13.1.2 (s.ents.filter fun x=>!(fun x=>QaB o (QaE x)) x) (Qce (QeZ (⟨o.cart,o.item,o.qty,o.kind,o.dot,QbG o⟩:Cen)) (s.ents.filter fun x=>!(fun x=>QaB o (QaE x)) x)) hpe (⟨o.cart,o.item,o.qty,o.kind,o.dot,QbG o⟩:Cen) (some ⟨b29,0,none⟩) 1 (hs.rd 7 rfl) hpl9 hnS hpl9.lt (by omega) hS hlt) fun x32 w31 hs _=>(Qaa (Qaf Qc4 rfl (Qaa (QcQ (V:=.slice x32.1 ((Qdm (s.ents.filter fun x=>!(fun x=>QaB o (QaE x)) x) (Qce (QeZ (⟨o.cart,o.item,o.qty,o.kind,o.dot,QbG o⟩:Cen)) (s.ents.filter fun x=>!(fun x=>QaB o (QaE x)) x)) (⟨o.cart,o.item,o.qty,o.kind,o.dot,QbG o⟩:Cen)).length) x32.2) (cs':=(vc (vset s.known o.dot.rep.toNat o.dot.seq))++[(.slice x32.1 ((Qdm (s.ents.filter fun x=>!(fun x=>QaB o (QaE x)) x) (Qce (QeZ (⟨o.cart,o.item,o.qty,o.kind,o.dot,QbG o⟩:Cen)) (s.ents.filter fun x=>!(fun x=>QaB o (QaE x)) x)) (⟨o.cart,o.item,o.qty,o.kind,o.dot,QbG o⟩:Cen)).length) x32.2:Value),(.slice x13.2.1 s.ticks.length x13.2.2:Value) ]) Qgf hs 5 rfl rfl rfl rfl (QQ8 rfl) rfl fun w33 hs=>?_))))))))))))))))
   replace hs:Own w no w33 [blk b1 ((vc s.known)++[(.slice a1 s.ents.length c1:Value),(.slice a2 s.ticks.length c2:Value) ]) 38,blk b3 (oc o) 98,blk b5 ((vc vzero)++[(.slice none 0 0:Value),(.slice none 0 0:Value) ]) 38,row (.slice x32.1 ((Qdm (s.ents.filter fun x=>!(fun x=>QaB o (QaE x)) x) (Qce (QeZ (⟨o.cart,o.item,o.qty,o.kind,o.dot,QbG o⟩:Cen)) (s.ents.filter fun x=>!(fun x=>QaB o (QaE x)) x)) (⟨o.cart,o.item,o.qty,o.kind,o.dot,QbG o⟩:Cen)).length) x32.2) ((Qdm (s.ents.filter fun x=>!(fun x=>QaB o (QaE x)) x) (Qce (QeZ (⟨o.cart,o.item,o.qty,o.kind,o.dot,QbG o⟩:Cen)) (s.ents.filter fun x=>!(fun x=>QaB o (QaE x)) x)) (⟨o.cart,o.item,o.qty,o.kind,o.dot,QbG o⟩:Cen)).map cec) 106 7,row (.slice x13.2.1 s.ticks.length x13.2.2) (s.ticks.map lsc) 102 2,blk b15 ((vc (vset s.known o.dot.rep.toNat o.dot.seq))++[(.slice x32.1 ((Qdm (s.ents.filter fun x=>!(fun x=>QaB o (QaE x)) x) (Qce (QeZ (⟨o.cart,o.item,o.qty,o.kind,o.dot,QbG o⟩:Cen)) (s.ents.filter fun x=>!(fun x=>QaB o (QaE x)) x)) (⟨o.cart,o.item,o.qty,o.kind,o.dot,QbG o⟩:Cen)).length) x32.2:Value),(.slice x13.2.1 s.ticks.length x13.2.2:Value) ]) 38,blk b27 (cec (⟨o.cart,o.item,o.qty,o.kind,o.dot,QbG o⟩:Cen)) 106,row (.slice (some ⟨b29,0,none⟩) 1 1) ([(⟨o.cart,o.item,o.qty,o.kind,o.dot,QbG o⟩:Cen)].map cec) 106 7]:=hs
   refine Qae ?_
   exact ⟨_,x32.1,x32.2,Qdm (s.ents.filter fun x=>!(fun x=>QaB o (QaE x)) x) (Qce (QeZ (⟨o.cart,o.item,o.qty,o.kind,o.dot,QbG o⟩:Cen)) (s.ents.filter fun x=>!(fun x=>QaB o (QaE x)) x)) (⟨o.cart,o.item,o.qty,o.kind,o.dot,QbG o⟩:Cen),Qao (ds:=([8,9,10]++sq 51 27)) (by repeat (first|exact Agr.refl _ _|refine Agr.upd ?_ rfl|refine Agr.mix ?_ rfl)),(by unfold QdM;rw [if_pos c22];exact (Qka (fun hm=>hfd (Ql5 hm))).symm),hs.take 6⟩
  refine Qap ?_
  exact ⟨_,x13.1.1,x13.1.2,(s.ents.filter fun x=>!(fun x=>QaB o (QaE x)) x),Qao (ds:=([8,9,10]++sq 51 27)) (by repeat (first|exact Agr.refl _ _|refine Agr.upd ?_ rfl|refine Agr.mix ?_ rfl)),(by unfold QdM;rw [if_neg (by rw [c22];decide)]),hs.take 6⟩
 rintro J' w34 ⟨Jo,a9,c9,L9,rfl,hL9,hs⟩
 refine Qag (Qab (Qaa (Qaf Qem rfl (Qaa (QaP (V:=I7 o.cart) Qar hs 1 rfl rfl rfl (Qaa (Qaf Qhn rfl (Qaa (QaP (V:=.int .u32 o.tick) QaN hs 1 rfl rfl rfl (Qaa (QbI (vs:=[(0,I7 o.cart),(1,.int .u32 o.tick)]) (cs:=lsc (⟨o.cart,o.tick⟩:Lst)) QpP (rfl) rfl ?_)))))))))))
 replace hs:=hs.join 5 4 (by decide) rfl rfl
 refine Qaa (Qbs (α:=Option Addr × Nat) (vs:=[Pq b15 0,.agg (lsc (⟨o.cart,o.tick⟩:Lst)).toArray]) (V:=fun _=>.tuple #[]) (R:=star [blk b15 (vc (vset s.known o.dot.rep.toNat o.dot.seq)++[(.slice a9 L9.length c9:Value),(.slice x13.2.1 s.ticks.length x13.2.2:Value)]) 38,row (.slice x13.2.1 s.ticks.length x13.2.2) (s.ticks.map lsc) 102 2]) (R':=fun x=>star [blk b15 (vc (vset s.known o.dot.rep.toNat o.dot.seq)++[(.slice a9 L9.length c9:Value),(.slice x.1 (Qdn o.cart o.tick s.ticks).length x.2:Value)]) 38,row (.slice x.1 (Qdn o.cart o.tick s.ticks).length x.2) ((Qdn o.cart o.tick s.ticks).map lsc) 102 2]) (Lo:=fun _=>[]) (F:=fun _ _=>True) Qst rfl rfl hs 5 rfl (fun S hS hlS=>Qqa _ S b15 (vset s.known o.dot.rep.toNat o.dot.seq) (.slice a9 L9.length c9) x13.2.1 x13.2.2 s.ticks (⟨o.cart,o.tick⟩:Lst) (by omega) hrc.rt hS hlS) fun x35 w36 hs _=>?_)
 replace hs:=hs.split 5 rfl
 replace hs:=hs.put 4 (QQ8 rfl)
 refine Qae (Qag (Qab (Qaa (QaO (cs:=(vc (vset s.known o.dot.rep.toNat o.dot.seq))++[(.slice a9 L9.length c9:Value),(.slice x35.1 ((Qdn o.cart o.tick s.ticks).length) x35.2:Value) ]) QbS hs 5 rfl rfl rfl (Qaa (QcG (V:=.agg ((vc (vset s.known o.dot.rep.toNat o.dot.seq))++[(.slice a9 L9.length c9:Value),(.slice x35.1 ((Qdn o.cart o.tick s.ticks).length) x35.2:Value) ]).toArray) (vs:=(vc (vset s.known o.dot.rep.toNat o.dot.seq))++[(.slice a9 L9.length c9:Value),(.slice x35.1 ((Qdn o.cart o.tick s.ticks).length) x35.2:Value) ]) (cs':=(vc (vset s.known o.dot.rep.toNat o.dot.seq))++[(.slice a9 L9.length c9:Value),(.slice x35.1 ((Qdn o.cart o.tick s.ticks).length) x35.2:Value) ]) QbS.1 hs 2 rfl rfl rfl rfl rfl (QQ8 rfl) (Qbh (QbQ _) (Qat rfl (Qat rfl Qa1))) (Qaz rfl) fun w37 hs=>(Qaa (Qad (V:=I6 0) rfl (Qae (Qav ?_))))))))))
 refine ⟨_,Qci (cs:=(vc (vset s.known o.dot.rep.toNat o.dot.seq))++[(.slice a9 L9.length c9:Value),(.slice x35.1 ((Qdn o.cart o.tick s.ticks).length) x35.2:Value) ]) (V:=I6 0) Tryz.results72 QbS hs 2 rfl rfl rfl rfl,?_⟩
 have hI:QcH s o=0:=by unfold QcH;rw [if_pos c8];exact c11
 have hR:QaT s o=(⟨vset s.known o.dot.rep.toNat o.dot.seq,L9,Qdn o.cart o.tick s.ticks⟩:Sta):=by unfold QaT;rw [if_pos hI,hL9];rfl
 rw [hI,hR]
 exact ⟨((a9,c9),(x35.1,x35.2)),rfl,hs.two 3 4 (by decide) rfl rfl,trivial⟩
end Tt
end Go.Proofs
namespace Go.Proofs
open Go Go.Vx Go.RowKit
namespace Tt
theorem Qm4 (w:World) (a:Option Addr) (c:Nat) (l:List Opn) (hl:∀ o∈l,Qb8 o) (hr:Rd w (.slice a l.length c) 23 (l.map oc)):Calls Tryz.prog 69 #[.slice a l.length c] w (fun e w'=>e = .returned (.bool (QbO l))/\Own w no w' []):=by
 refine Qai (n:=63) Tryz.func69 rfl Tryz.ntmps69 rfl ?_
 have hs:=Own.start w
 have hn:=hr.sml
 refine Qag (Qab (Qaa (Qad (V:=.bool false) rfl (Qae (Qag (Qag (Qbq [some 10,some 11,some 12,some 13,some 14,some 15,some 16,some 17] [] [0,1,3,7,15,31,63,127] [pv (.slice a l.length c),pv (I6 ((l.length:Nat):Int)),pv (.bool (decide (40<((l.length:Nat):Int)))),pv (.bool (decide (40<((l.length:Nat):Int)))),pg ((decide (40<((l.length:Nat):Int))) == false) (.slice a l.length c),pg ((decide (40<((l.length:Nat):Int))) == false) (.bool (Qbb l)),pg ((decide (40<((l.length:Nat):Int))) == false) (.bool (!(Qbb l))),pv (.bool ((decide (40<((l.length:Nat):Int)))||(!(Qbb l))))] (fun _ _=>_) [7] (by kernel_rfl) hs ⟨?_,?_,?_,?_,?_,?_,?_,?_,trivial⟩ ?_)))))))
 ·exact oa [] fun D J w hs=>Qac (V:=.slice a l.length c) rfl (Zz hs)
 ·exact oa [0] fun D J w hs=>Qa0 (n:=l.length) Qco (Rd.own' hr hs) (by simp) rfl (Zz hs)
 ·exact oa [1] fun D J w hs=>QbU rfl rfl (Zz hs)
 ·exact oa [2] fun D J w hs=>Qac (V:=.bool (decide (40<((l.length:Nat):Int)))) rfl (Zz hs)
 ·refine og [3] fun D J w hG hs=>?_
  have hgd:=QQ2 (eq_of_beq hG)
  exact Qac (V:=.slice a l.length c) rfl (Zz hs)
 ·refine oy [3,4] [4] fun D J w hG hs=>?_
  have hgd:=QQ2 (eq_of_beq hG)
  exact Qas (vs:=[.slice a l.length c]) (V:=.bool (Qbb l)) Qtf rfl rfl (QfN _ a c l hl (by omega) (Rd.own' hr hs)) hs fun _ hs=>Zz hs
 ·refine oy [3,5] [5] fun D J w hG hs=>?_
  have hgd:=QQ2 (eq_of_beq hG)
  exact Qbx rfl (Zz hs)
 ·exact oa [3,6] fun D J w hs=>Qb2 (h':=!(Qbb l)) rfl rfl rfl (Zz hs)
 rintro J1 w2 J2 hJ hs
 replace hJ:J2=upd (mix (sq 10 8) J1 _) 17 (.bool ((decide (40<((l.length:Nat):Int)))||(!(Qbb l)))):=hJ
 subst hJ
 refine Qam (t:=(decide (40<((l.length:Nat):Int)))||(!(Qbb l))) rfl (fun c3=>?_) (fun c3=>?_)
 ·
  refine Qag (Qab (Qaa (Qad (V:=.bool false) rfl (Qae (Qav ?_)))))
  refine ⟨_,Qaq (V:=.bool false) Tryz.results69 rfl,(Zr hs ?_)⟩
  have hc:=c3
  rcases Nat.lt_or_ge 40 l.length with q|q
  ·exact congrArg Value.bool (QnB q).symm
  refine congrArg Value.bool (QiN ?_).symm
  rw [QQ4 (by omega)] at hc;simpa using hc
 have c3r:=QfW c3
 replace c3:=QfV c3
 replace c3:=QQ2 c3
 replace c3r:=Qbr c3r
 refine Qap (Qag (Qab (Qaa (QaL (cs:=vc vzero) Qtp rfl hs fun b4 w5 hs=>(Qae (Qag (Qag (Qab (Qaa (Qac (V:=.slice a l.length c) rfl (Qaa (Qa0 (n:=l.length) Qco (Rd.own' hr hs) (by simp) rfl (Qaa (Qac (V:=I6 0) rfl (Qae (Qan (QaC (fun J μ J' w'=>∃ (Jo:Env) (k:Nat) (u:Vec),J'=upd (mix ([2,5]++sq 20 16) Jo J) 20 (I6 (k:Int))/\(k<=l.length)/\(u=Qbn (l.take k))/\(∀ j:Nat,j<k->decide (QbD (Qbn (l.take j)) (gd l j)=0)=true)/\μ=l.length-k/\Own w no w' [blk b4 (vc u) 24]) ?_ ?_)))))))))))))))))
 ·exact ⟨_,_,0,vzero,Qak (Qao (ds:=([2,5]++sq 20 16)) (Agr.refl _ _)) rfl,(by omega),rfl,(fun j hj=>absurd hj (Nat.not_lt_zero j)),rfl,hs⟩
 rintro μ J' w6 ⟨Jo,k,u,rfl,hk,hu,hrd,rfl,hs⟩
 refine Qag (Qab (Qaa (Qa2 rfl rfl (Qae (Qag (Qam (t:=decide ((k:Int)<((l.length:Nat):Int))) rfl (fun c7=>?_) (fun c7=>?_)))))))
 ·
  replace c7:=QQ1 c7
  refine Qap (Qag (Qan (Qag (Qab (Qaa (Qaw Qco QbB.1 (Rd.own' hr hs) rfl rfl (by omega) (by rw [QQ6];omega) (Qaa (Qbc (j:=0) (vs:=oc (gd l k)) k QbB (Rd.own' hr hs) (Qa9 (by omega)) rfl rfl rfl (by omega) (Qaa (QaL (cs:=oc (⟨(⟨0,0⟩:Dot),0,0,0,0,0,vzero⟩:Opn)) Qin rfl hs fun b8 w9 hs=>(Qaa (QcG (V:=.agg (oc (gd l k)).toArray) (vs:=oc (gd l k)) (cs':=oc (gd l k)) QbB.1 hs 1 rfl rfl rfl rfl rfl (QQ8 rfl) (Qc1 _) (Qaz rfl) fun w10 hs=>(Qae (Qag (Qag (Qab (Qaa (QaO (cs:=vc u) Qbu hs 0 rfl rfl rfl (Qaa (QaO (cs:=oc (gd l k)) QbB hs 1 rfl rfl rfl (Qaa (Qas (vs:=[.agg (vc u).toArray,.agg (oc (gd l k)).toArray]) (V:=I6 (QbD u (gd l k))) Qsx rfl rfl ?hc hs fun w11 hs=>?_))))))))))))))))))))))
  case hc=>exact (QmA _ u (gd l k) (hl _ (Qbz (by omega))))
  refine Qaa (QcC rfl rfl (Qae (Qam (t:=!decide (QbD u (gd l k)=0)) rfl (fun c12=>?_) (fun c12=>?_))))
  ·
   replace c12:=Qby c12
   replace c12:=QQ2 c12
   refine Qag (Qab (Qaa (Qad (V:=.bool false) rfl (Qae (Qav ?_)))))
   refine ⟨_,Qaq (V:=.bool false) Tryz.results69 rfl,(Zr hs ?_)⟩
   exact congrArg Value.bool (Qkv (k:=k) (by omega) (by rw [← hu];exact c12)).symm
  replace c12:=Qbr c12
  replace c12:=QQ1 c12
  refine Qap ?_
  have ⟨⟨⟨hp1,hp2⟩,hp3,hp4⟩,_⟩:=hl _ (Qbz (l:=l) (i:=k) (by omega))
  have hp5:=(Qg4 (hl _ (Qbz (l:=l) (i:=k) (by omega))) c12).1.r1
  refine Qab (Qaa (Qaf Qbl rfl (Qaa (Qaf QbV rfl (Qaa (QaP (V:=.int .u8 (((gd l k).dot).rep)) Qds hs 1 rfl rfl rfl (Qaa (Qaf Qbl rfl (Qaa (Qaf QbX rfl (Qaa (QaP (V:=.int .u32 (((gd l k).dot).seq)) QaN hs 1 rfl rfl rfl (Qaa (Qbo QdH QaN.1 rfl rfl (by omega) (by omega) (Qaa (QcQ (V:=.int .u32 (((gd l k).dot).seq)) (cs':=vc (vset u (((gd l k).dot).rep).toNat (((gd l k).dot).seq))) QaN hs 0 rfl rfl rfl rfl (Qt4 (by omega)) (QlN (by omega) (by omega)) fun w13 hs=>?_))))))))))))))))
  replace hs:Own w no w13 [blk b4 (vc (vset u (((gd l k).dot).rep).toNat (((gd l k).dot).seq))) 24,blk b8 (oc (gd l k)) 98]:=hs
  refine Qae (Qab (Qaa (QaD (a:=(k:Int)) (b:=1) (c:=((k+1:Nat):Int)) rfl rfl (Qaj (by omega) (by omega)) (Qaa (Qac (V:=I6 ((k+1:Nat):Int)) rfl (Qae ?_))))))
  refine ⟨_,?_,_,k+1,vset u (((gd l k).dot).rep).toNat (((gd l k).dot).seq),Qak (Qao (ds:=([2,5]++sq 20 16)) (by repeat (first|exact Agr.refl _ _|refine Agr.upd ?_ rfl|refine Agr.mix ?_ rfl))) rfl,(by omega),(QkM hu (by omega)),(QjQ hrd (QQ3 (by rw [← hu];exact c12))),rfl,hs.take 1⟩
  omega
 replace c7:=QQ2 c7
 refine QaJ (Qag (Qag (Qab (Qaa (Qac (V:=.slice a l.length c) rfl (Qaa (Qa0 (n:=l.length) Qco (Rd.own' hr hs) (by simp) rfl (Qaa (Qac (V:=I6 0) rfl (Qae (Qan (QaC (fun J μ J' w'=>∃ (Jo:Env) (i2:Nat),J'=upd (mix ([2,7,9]++sq 38 25) Jo J) 38 (I6 (i2:Int))/\(i2<=l.length)/\(∀ i,i<i2->∀ j,j<l.length->QiH l i j=false)/\μ=l.length-i2/\Own w no w' [blk b4 (vc u) 24]) ?_ ?_))))))))))))
 ·exact ⟨_,_,0,Qak (Qao (ds:=([2,7,9]++sq 38 25)) (Agr.refl _ _)) rfl,(by omega),(fun i hi=>absurd hi (Nat.not_lt_zero i)),rfl,hs⟩
 rintro μ J' w14 ⟨Jo,i2,rfl,hi2,hdp,rfl,hs⟩
 refine Qag (Qab (Qaa (Qa2 rfl rfl (Qae (Qag (Qam (t:=decide ((i2:Int)<((l.length:Nat):Int))) rfl (fun c15=>?_) (fun c15=>?_)))))))
 ·
  replace c15:=QQ1 c15
  refine Qap (Qag (Qan (Qag (Qab (Qaa (Qaw Qco QbB.1 (Rd.own' hr hs) rfl rfl (by omega) (by rw [QQ6];omega) (Qaa (Qbc (j:=0) (vs:=oc (gd l i2)) i2 QbB (Rd.own' hr hs) (Qa9 (by omega)) rfl rfl rfl (by omega) (Qaa (QaL (cs:=oc (⟨(⟨0,0⟩:Dot),0,0,0,0,0,vzero⟩:Opn)) Qin rfl hs fun b16 w17 hs=>(Qaa (QcG (V:=.agg (oc (gd l i2)).toArray) (vs:=oc (gd l i2)) (cs':=oc (gd l i2)) QbB.1 hs 1 rfl rfl rfl rfl rfl (QQ8 rfl) (Qc1 _) (Qaz rfl) fun w18 hs=>(Qae (Qag (Qab (Qaa (Qac (V:=.slice a l.length c) rfl (Qaa (Qa0 (n:=l.length) Qco (Rd.own' hr hs) (by simp) rfl (Qaa (Qac (V:=I6 0) rfl (Qae (Qan (QaC (fun J μ J' w'=>∃ (Jo:Env) (j3:Nat),J'=upd (mix ([2,9]++sq 44 18) Jo J) 44 (I6 (j3:Int))/\(j3<=l.length)/\(∀ j:Nat,j<j3->QiH l i2 j=false)/\μ=l.length-j3/\Own w no w' [blk b4 (vc u) 24,blk b16 (oc (gd l i2)) 98]) ?_ ?_))))))))))))))))))))))))
  ·exact ⟨_,_,0,Qak (Qao (ds:=([2,9]++sq 44 18)) (Agr.refl _ _)) rfl,(by omega),(fun j hj=>absurd hj (Nat.not_lt_zero j)),rfl,hs⟩
  rintro μ J' w19 ⟨Jo,j3,rfl,hj3,hdj,rfl,hs⟩
  refine Qag (Qab (Qaa (Qa2 rfl rfl (Qae (Qag (Qam (t:=decide ((j3:Int)<((l.length:Nat):Int))) rfl (fun c20=>?_) (fun c20=>?_)))))))
  ·
   replace c20:=QQ1 c20
   refine Qap (Qag (Qan (Qag (Qab (Qaa (Qaw Qco QbB.1 (Rd.own' hr hs) rfl rfl (by omega) (by rw [QQ6];omega) (Qaa (Qbc (j:=0) (vs:=oc (gd l j3)) j3 QbB (Rd.own' hr hs) (Qa9 (by omega)) rfl rfl rfl (by omega) (Qaa (QaL (cs:=oc (⟨(⟨0,0⟩:Dot),0,0,0,0,0,vzero⟩:Opn)) Qin rfl hs fun b21 w22 hs=>?_))))))))))
   replace hs:Own w no w22 [blk b4 (vc u) 24,blk b16 (oc (gd l i2)) 98,blk b21 (oc (⟨(⟨0,0⟩:Dot),0,0,0,0,0,vzero⟩:Opn)) 98]:=hs
   refine Qaa (QcG (V:=.agg (oc (gd l j3)).toArray) (vs:=oc (gd l j3)) (cs':=oc (gd l j3)) QbB.1 hs 2 rfl rfl rfl rfl rfl (QQ8 rfl) (Qc1 _) (Qaz rfl) fun w23 hs=>(Qae (Qag ?_)))
   have hdj3:=(hl _ (Qbz (l:=l) (i:=j3) (by omega))).1
   refine Qbq [some 48,some 49,some 50,some 51,some 52,some 53,some 54,some 55,some 56,some 57,some 58,some 59,some 60] [] [0,1,0,4,15,31,63,127,63,319,1023,2047,4095] [pv (Pq b16 (0+7)),pv (.agg (vc ((gd l i2).ctx)).toArray),pv (Pq b21 (0+0)),pv (.agg (dc ((gd l j3).dot)).toArray),pv (.bool (Qbv ((gd l i2).ctx) ((gd l j3).dot))),pv (.bool (Qbv ((gd l i2).ctx) ((gd l j3).dot))),pg ((Qbv ((gd l i2).ctx) ((gd l j3).dot)) == true) (Pq b21 (0+7)),pg ((Qbv ((gd l i2).ctx) ((gd l j3).dot)) == true) (.agg (vc ((gd l j3).ctx)).toArray),pg ((Qbv ((gd l i2).ctx) ((gd l j3).dot)) == true) (Pq b16 (0+7)),pg ((Qbv ((gd l i2).ctx) ((gd l j3).dot)) == true) (.agg (vc ((gd l i2).ctx)).toArray),pg ((Qbv ((gd l i2).ctx) ((gd l j3).dot)) == true) (.bool (vle ((gd l j3).ctx) ((gd l i2).ctx))),pg ((Qbv ((gd l i2).ctx) ((gd l j3).dot)) == true) (.bool (!(vle ((gd l j3).ctx) ((gd l i2).ctx)))),pv (.bool ((Qbv ((gd l i2).ctx) ((gd l j3).dot))&&(!(vle ((gd l j3).ctx) ((gd l i2).ctx)))))] (fun _ _=>_) [12] (by kernel_rfl) hs ⟨?_,?_,?_,?_,?_,?_,?_,?_,?_,?_,?_,?_,?_,trivial⟩ ?_
   ·exact oa [] fun D J w hs=>Qaf QcD rfl (Zz hs)
   ·exact oa [0] fun D J w hs=>QbT (vs:=vc ((gd l i2).ctx)) Qbu hs 1 rfl rfl rfl rfl (Zz hs)
   ·exact oa [] fun D J w hs=>Qaf Qbl rfl (Zz hs)
   ·exact oa [2] fun D J w hs=>QbT (vs:=dc ((gd l j3).dot)) QcE hs 2 rfl rfl rfl rfl (Zz hs)
   ·exact oa [1,3] fun D J w hs=>Qas (vs:=[.agg (vc ((gd l i2).ctx)).toArray,.agg (dc ((gd l j3).dot)).toArray]) (V:=.bool (Qbv ((gd l i2).ctx) ((gd l j3).dot))) QlT rfl rfl (QfZ _ ((gd l i2).ctx) ((gd l j3).dot) (by first|assumption|exact QcF (by omega) (by omega) (by omega) (by omega))) hs fun _ hs=>Zz hs
   ·exact oa [4] fun D J w hs=>Qac (V:=.bool (Qbv ((gd l i2).ctx) ((gd l j3).dot))) rfl (Zz hs)
   ·exact og [5] fun D J w hG hs=>Qaf QcD rfl (Zz hs)
   ·exact oy [5,6] [6] fun D J w hG hs=>QbT (vs:=vc ((gd l j3).ctx)) Qbu hs 2 rfl rfl rfl rfl (Zz hs)
   ·exact og [5] fun D J w hG hs=>Qaf QcD rfl (Zz hs)
   ·exact oy [5,8] [8] fun D J w hG hs=>QbT (vs:=vc ((gd l i2).ctx)) Qbu hs 1 rfl rfl rfl rfl (Zz hs)
   ·exact oy [5,7,9] [7,9] fun D J w hG hs=>Qas (vs:=[.agg (vc ((gd l j3).ctx)).toArray,.agg (vc ((gd l i2).ctx)).toArray]) (V:=.bool (vle ((gd l j3).ctx) ((gd l i2).ctx))) QsO rfl rfl (QhN _ ((gd l j3).ctx) ((gd l i2).ctx)) hs fun _ hs=>Zz hs
   ·exact oy [5,10] [10] fun D J w hG hs=>Qbx rfl (Zz hs)
   ·exact oa [5,11] fun D J w hs=>Qbg (h':=!(vle ((gd l j3).ctx) ((gd l i2).ctx))) rfl rfl rfl (Zz hs)
   rintro J1 w26 J2 hJ hs
   replace hJ:J2=upd (mix (sq 48 13) J1 _) 60 (.bool ((Qbv ((gd l i2).ctx) ((gd l j3).dot))&&(!(vle ((gd l j3).ctx) ((gd l i2).ctx))))):=hJ
   subst hJ
   refine Qam (t:=(Qbv ((gd l i2).ctx) ((gd l j3).dot))&&(!(vle ((gd l j3).ctx) ((gd l i2).ctx)))) rfl (fun c27=>?_) (fun c27=>?_)
   ·
    have c27r:=Qcs c27
    replace c27:=QbY c27
    replace c27r:=Qby c27r
    refine Qag (Qab (Qaa (Qad (V:=.bool false) rfl (Qae (Qav ?_)))))
    refine ⟨_,Qaq (V:=.bool false) Tryz.results69 rfl,(Zr hs ?_)⟩
    exact congrArg Value.bool (Qmf (i:=i2) (j:=j3) (by omega) (by omega) (by unfold QiH;rw [c27,c27r];rfl)).symm
   refine Qap (Qab (Qaa (QaD (a:=(j3:Int)) (b:=1) (c:=((j3+1:Nat):Int)) rfl rfl (Qaj (by omega) (by omega)) (Qaa (Qac (V:=I6 ((j3+1:Nat):Int)) rfl (Qae ?_))))))
   refine ⟨_,?_,_,j3+1,Qak (Qao (ds:=([2,9]++sq 44 18)) (by repeat (first|exact Agr.refl _ _|refine Agr.upd ?_ rfl|refine Agr.mix ?_ rfl))) rfl,(by omega),(Qdg hdj (by unfold QiH;exact c27)),rfl,hs.take 2⟩
   omega
  replace c20:=QQ2 c20
  refine QaJ (Qab (Qaa (QaD (a:=(i2:Int)) (b:=1) (c:=((i2+1:Nat):Int)) rfl rfl (Qaj (by omega) (by omega)) (Qaa (Qac (V:=I6 ((i2+1:Nat):Int)) rfl (Qae ?_))))))
  refine ⟨_,?_,_,i2+1,Qak (Qao (ds:=([2,7,9]++sq 38 25)) (by repeat (first|exact Agr.refl _ _|refine Agr.upd ?_ rfl|refine Agr.mix ?_ rfl))) rfl,(by omega),(fun i hi j hj=>by
 rcases Nat.lt_or_eq_of_le (Nat.le_of_lt_succ hi) with q|q
 ·exact hdp i q j hj
 ·subst q;exact hdj j (by omega)),rfl,hs.take 1⟩
  omega
 replace c15:=QQ2 c15
 refine QaJ (Qag (Qab (Qaa (Qad (V:=.bool true) rfl (Qae (Qav ?_))))))
 refine ⟨_,Qaq (V:=.bool true) Tryz.results69 rfl,(Zr hs ?_)⟩
 exact congrArg Value.bool (QnS (by omega) c3r (fun k hk=>QQ1 (hrd k (by omega))) fun i hi j hj=>hdp i (by omega) j hj).symm
end Tt
end Go.Proofs
