/- A part of a proof: what functions of the program compute, and plain facts on that. -/
import Derived.Test.YtbjbjboehjdcaaaGreatCutsStatesP6
import Derived.KernelRfl
import Derived.Test.YtbjbjboehjdcaaaGreatProg
import Derived.Shelf.SlSortCmp.WholeK
import Derived.Shelf.SlLaysF0
import Derived.Ground.SlsfProg
import Derived.Shelf.SlSortCmp.NoneTotal
set_option linter.unusedVariables false
set_option linter.unusedSimpArgs false
set_option maxHeartbeats 4000000
set_option maxRecDepth 100000
namespace Go.Proofs
open Go Go.Vx Go.RowKit
namespace Tt
theorem Qma (w:World) (S:Nat->Prop) (b:Nat) (L:List Dif) (va:Int) (la:List Line) (ao:Bool) (at_:Int) (aa:Option Addr) (ca:Nat) (vb:Int) (lb:List Line) (bo:Bool) (bt:Int) (ab:Option Addr) (cb:Nat) (hra:QfF la) (hrb:QfF lb) (hna:la.length<=100000) (hnb:lb.length<=100000) (hva:∀ (w1:World) (L1:List Res),Own w S w1 L1->Rd w1 (.slice aa la.length ca) 2 (la.map lc)) (hvb:∀ (w1:World) (L1:List Res),Own w S w1 L1->Rd w1 (.slice ab lb.length cb) 2 (lb.map lc)) (hR:(Qeu 60 83 b L).holds w S) (hlS:∀ x,S x->x<w.heap.size) (hL:L.length<=10000000):Calls Tryz.prog 64 #[.agg #[.int .u16 va,.slice aa la.length ca,.bool ao,.int .u32 at_],.agg #[.int .u16 vb,.slice ab lb.length cb,.bool bo,.int .u32 bt],.func (.func 65) #[] #[.pointer (some ⟨b,0,none⟩)]] w (fun e w'=>∃ x_:Unit,e = .returned (.tuple #[])/\Own w S w' [Qeu 60 83 b (L++QeG (⟨va,la,ao,at_⟩:Vw) (⟨vb,lb,bo,bt⟩:Vw))]/\True):=by
 refine Qaj (n:=126) Tryz.func64 rfl Tryz.ntmps64 rfl ?_
 have hs:=Own.lent hR hlS
 refine Qag (Qab (Qaa (QaR (V:=.agg #[I7 va,.slice aa la.length ca,.bool ao,.int .u32 at_]) (cs:=[I7 va,.slice aa la.length ca,.bool ao,.int .u32 at_]) rfl rfl hs fun b1 w2 hs=>(Qaa (QaR (V:=.agg #[I7 vb,.slice ab lb.length cb,.bool bo,.int .u32 bt]) (cs:=[I7 vb,.slice ab lb.length cb,.bool bo,.int .u32 bt]) rfl rfl hs fun b3 w4 hs=>(Qaf (Qag (QaJ HM [some 9,some 10,some 11,some 12,some 6,some 7] [] [0,1,0,4,3,31] [pv (Pq b1 (0+1)),pv (.slice aa la.length ca),pv (Pq b3 (0+1)),pv (.slice ab lb.length cb),pv (.slice aa la.length ca),pv (.slice ab lb.length cb)] (fun _ _=>_) [5,4] (by kernel_rfl) hs ⟨?_,?_,?_,?_,?_,?_,trivial⟩ ?_))))))))
 ·exact oa [] fun D J w hs=>Qae QcS rfl (Zz hs)
 ·exact oa [0] fun D J w hs=>QaF (V:=.slice aa la.length ca) QfE hs 1 rfl rfl rfl (Zz hs)
 ·exact oa [] fun D J w hs=>Qae QcS rfl (Zz hs)
 ·exact oa [2] fun D J w hs=>QaF (V:=.slice ab lb.length cb) QfE hs 2 rfl rfl rfl (Zz hs)
 ·exact oa [1] fun D J w hs=>Qad (V:=.slice aa la.length ca) rfl (Zz hs)
 ·exact oa [3] fun D J w hs=>Qad (V:=.slice ab lb.length cb) rfl (Zz hs)
 rintro J1 w5 J2 hJ hs
 replace hJ:J2=upd (upd (mix [9,10,11,12,6,7] J1 _) 6 (.slice aa la.length ca)) 7 (.slice ab lb.length cb):=hJ
 subst hJ
 refine Qag (Qam (QaA (fun J μ J' w'=>∃ (Jo:Env) (R1:List Line) (R2:List Line) (I:List Int) (out:List Dif) (a6:Option Addr) (cb6:Nat) (a7:Option Addr) (cb7:Nat),J'=upd (upd (mix ([6,7,8]++sq 13 97) Jo J) 6 (.slice a6 R1.length cb6)) 7 (.slice a7 R2.length cb7)/\(DifI la lb R1 R2 I)/\(out=L++I.flatMap (Qjp vb la lb))/\(∀ (w1:World) (L1:List Res),Own w S w1 L1->Rd w1 (.slice a6 R1.length cb6) 2 (R1.map lc))/\(∀ (w1:World) (L1:List Res),Own w S w1 L1->Rd w1 (.slice a7 R2.length cb7) 2 (R2.map lc))/\(R1.length<=la.length/\R2.length<=lb.length)/\(out.length+(R1.length+R2.length)<=L.length+(la.length+lb.length))/\μ=R1.length+R2.length/\Own w S w' [Qeu 60 83 b out,blk b1 [I7 va,.slice aa la.length ca,.bool ao,.int .u32 at_] 49,blk b3 [I7 vb,.slice ab lb.length cb,.bool bo,.int .u32 bt] 49]) ?_ ?_))
 ·exact ⟨_,_,la,lb,[],L,aa,ca,ab,cb,Qai (Qai (Qao (ds:=([6,7,8]++sq 13 97)) (Agr.refl _ _)) rfl) rfl,(QkO _ _),(by simp),hva,hvb,(by omega),(by omega),rfl,hs⟩
 rintro μ J' w6 ⟨Jo,R1,R2,I,out,a6,cb6,a7,cb7,rfl,hdi,hout,hv6,hv7,hll,hol,rfl,hs⟩
 have hrr:=Qnw hra hrb hdi
 have hmm:=Qpb hdi
 refine Qag (Qag (Qbm [some 13,some 14,some 15,some 16,some 17,some 18,some 19,some 20] [] [0,1,3,7,15,31,63,127] [pv (.slice a6 R1.length cb6),pv (I6 ((R1.length:Nat):Int)),pv (.bool (decide (0<((R1.length:Nat):Int)))),pv (.bool (decide (0<((R1.length:Nat):Int)))),pg ((decide (0<((R1.length:Nat):Int))) == false) (.slice a7 R2.length cb7),pg ((decide (0<((R1.length:Nat):Int))) == false) (I6 ((R2.length:Nat):Int)),pg ((decide (0<((R1.length:Nat):Int))) == false) (.bool (decide (0<((R2.length:Nat):Int)))),pv (.bool ((decide (0<((R1.length:Nat):Int)))||(decide (0<((R2.length:Nat):Int)))))] (fun _ _=>_) [7] (by kernel_rfl) hs ⟨?_,?_,?_,?_,?_,?_,?_,?_,trivial⟩ ?_))
 ·exact oa [] fun D J w hs=>Qac (V:=.slice a6 R1.length cb6) rfl (Zz hs)
 ·exact oa [0] fun D J w hs=>QaX (n:=R1.length) Qc3 (hv6 _ _ hs) (by simp) rfl (Zz hs)
 ·exact oa [1] fun D J w hs=>QbW rfl rfl (Zz hs)
 ·exact oa [2] fun D J w hs=>Qac (V:=.bool (decide (0<((R1.length:Nat):Int)))) rfl (Zz hs)
 ·exact og [3] fun D J w hG hs=>Qac (V:=.slice a7 R2.length cb7) rfl (Zz hs)
 ·exact oy [3,4] [4] fun D J w hG hs=>QaX (n:=R2.length) Qc3 (hv7 _ _ hs) (by simp) rfl (Zz hs)
 ·exact oy [3,5] [5] fun D J w hG hs=>QbW rfl rfl (Zz hs)
 ·exact oa [3,6] fun D J w hs=>QbM (h':=decide (0<((R2.length:Nat):Int))) rfl rfl rfl (Zz hs)
 rintro J1 w7 J2 hJ hs
 replace hJ:J2=upd (mix (sq 13 8) J1 _) 20 (.bool ((decide (0<((R1.length:Nat):Int)))||(decide (0<((R2.length:Nat):Int))))):=hJ
 subst hJ
 refine Qan (t:=(decide (0<((R1.length:Nat):Int)))||(decide (0<((R2.length:Nat):Int)))) rfl (fun c8=>?_) (fun c8=>?_)
 ·
  refine Qap (Qam (Qag (Qab (Qaa (Qae QhD rfl (Qaa (QaF (V:=I7 vb) Qar hs 2 rfl rfl rfl (Qaa (Qby (vs:=[(0,I7 vb)]) (cs:=dfc (⟨vb,0,false,0,0⟩:Dif)) Qqf (rfl) rfl (Qaa (QaK (cs:=dfc (⟨0,0,false,0,0⟩:Dif)) QuG rfl hs fun b9 w10 hs=>(Qaa (Qcq (V:=.agg (dfc (⟨vb,0,false,0,0⟩:Dif)).toArray) (vs:=dfc (⟨vb,0,false,0,0⟩:Dif)) (cs':=dfc (⟨vb,0,false,0,0⟩:Dif)) QiY.1 hs 3 rfl rfl rfl rfl rfl (QQ8 rfl) (Qju _) (Qay rfl) fun w11 hs=>?_)))))))))))))
  replace hs:Own w S w11 [Qeu 60 83 b out,blk b1 [I7 va,.slice aa la.length ca,.bool ao,.int .u32 at_] 49,blk b3 [I7 vb,.slice ab lb.length cb,.bool bo,.int .u32 bt] 49,blk b9 (dfc (⟨vb,0,false,0,0⟩:Dif)) 83]:=hs
  refine Qaf (Qag (Qam (Qag (QaJ HM [some 44,some 45,some 46,some 47,some 48,some 49,some 50,some 51,some 52,some 53,some 54,some 55,some 56,some 57,some 58,some 59,some 60,some 61,some 62,some 43] [] [0,1,3,7,15,31,63,127,255,511,1023,2047,255,4351,12543,28927,65535,131071,262143,524287] [pv (.slice a7 R2.length cb7),pv (I6 ((R2.length:Nat):Int)),pv (.bool (decide (((R2.length:Nat):Int)=0))),pv (.bool (decide (((R2.length:Nat):Int)=0))),pg ((decide (((R2.length:Nat):Int)=0)) == false) (.slice a6 R1.length cb6),pg ((decide (((R2.length:Nat):Int)=0)) == false) (I6 ((R1.length:Nat):Int)),pg ((decide (((R2.length:Nat):Int)=0)) == false) (.bool (decide (0<((R1.length:Nat):Int)))),pg ((decide (((R2.length:Nat):Int)=0)) == false) (.bool (decide (0<((R1.length:Nat):Int)))),pg (((decide (((R2.length:Nat):Int)=0)) == false)&&((decide (0<((R1.length:Nat):Int))) == true)) (.slice a6 R1.length cb6),pg (((decide (((R2.length:Nat):Int)=0)) == false)&&((decide (0<((R1.length:Nat):Int))) == true)) (.pointer (some ⟨bkS (.slice a6 R1.length cb6),ofS (.slice a6 R1.length cb6)+(0:Int).toNat*2,none⟩)),pg (((decide (((R2.length:Nat):Int)=0)) == false)&&((decide (0<((R1.length:Nat):Int))) == true)) (.pointer (some ⟨bkS (.slice a6 R1.length cb6),ofS (.slice a6 R1.length cb6)+(0:Int).toNat*2+0,none⟩)),pg (((decide (((R2.length:Nat):Int)=0)) == false)&&((decide (0<((R1.length:Nat):Int))) == true)) (I7 ((gd R1 0).item)),pg (((decide (((R2.length:Nat):Int)=0)) == false)&&((decide (0<((R1.length:Nat):Int))) == true)) (.slice a7 R2.length cb7),pg (((decide (((R2.length:Nat):Int)=0)) == false)&&((decide (0<((R1.length:Nat):Int))) == true)) (.pointer (some ⟨bkS (.slice a7 R2.length cb7),ofS (.slice a7 R2.length cb7)+(0:Int).toNat*2,none⟩)),pg (((decide (((R2.length:Nat):Int)=0)) == false)&&((decide (0<((R1.length:Nat):Int))) == true)) (.pointer (some ⟨bkS (.slice a7 R2.length cb7),ofS (.slice a7 R2.length cb7)+(0:Int).toNat*2+0,none⟩)),pg (((decide (((R2.length:Nat):Int)=0)) == false)&&((decide (0<((R1.length:Nat):Int))) == true)) (I7 ((gd R2 0).item)),pg (((decide (((R2.length:Nat):Int)=0)) == false)&&((decide (0<((R1.length:Nat):Int))) == true)) (.bool (decide ((gd R1 0).item<(gd R2 0).item))),pg ((decide (((R2.length:Nat):Int)=0)) == false) (.bool ((decide (0<((R1.length:Nat):Int)))&&(decide ((gd R1 0).item<(gd R2 0).item)))),pv (.bool ((decide (((R2.length:Nat):Int)=0))||((decide (0<((R1.length:Nat):Int)))&&(decide ((gd R1 0).item<(gd R2 0).item))))),pv (.bool ((decide (((R2.length:Nat):Int)=0))||((decide (0<((R1.length:Nat):Int)))&&(decide ((gd R1 0).item<(gd R2 0).item)))))] (fun _ _=>_) [19] (by kernel_rfl) hs ⟨?_,?_,?_,?_,?_,?_,?_,?_,?_,?_,?_,?_,?_,?_,?_,?_,?_,?_,?_,?_,trivial⟩ ?_))))
  ·exact oa [] fun D J w hs=>Qac (V:=.slice a7 R2.length cb7) rfl (Zz hs)
  ·exact oa [0] fun D J w hs=>QaX (n:=R2.length) Qc3 (hv7 _ _ hs) (by simp) rfl (Zz hs)
  ·exact oa [1] fun D J w hs=>QaT rfl rfl (Zz hs)
  ·exact oa [2] fun D J w hs=>Qac (V:=.bool (decide (((R2.length:Nat):Int)=0))) rfl (Zz hs)
  ·exact og [3] fun D J w hG hs=>Qac (V:=.slice a6 R1.length cb6) rfl (Zz hs)
  ·exact oy [3,4] [4] fun D J w hG hs=>QaX (n:=R1.length) Qc3 (hv6 _ _ hs) (by simp) rfl (Zz hs)
  ·exact oy [3,5] [5] fun D J w hG hs=>QbW rfl rfl (Zz hs)
  ·exact oy [3,6] [6] fun D J w hG hs=>Qac (V:=.bool (decide (0<((R1.length:Nat):Int)))) rfl (Zz hs)
  ·exact og [7] fun D J w hG hs=>Qac (V:=.slice a6 R1.length cb6) rfl (Zz hs)
  ·refine oy [7,8] [8] fun D J w hG hs=>?_
   have hgd0:=QQ2 (eq_of_beq (QbC (hG)))
   have hgd1:=QQ1 (eq_of_beq (QbG (hG)))
   exact Qax Qc3 Qcf.1 (hv6 _ _ hs) rfl rfl (by decide) (by rw [QQ6];omega) (Zz hs)
  ·exact oy [7,9] [9] fun D J w hG hs=>Qae QdD rfl (Zz hs)
  ·refine oy [7,10] [10] fun D J w hG hs=>?_
   have hgd0:=QQ2 (eq_of_beq (QbC (hG)))
   have hgd1:=QQ1 (eq_of_beq (QbG (hG)))
   exact QaU (j:=0) (V:=.int .u16 ((gd R1 0).item)) 0 Qar (hv6 _ _ hs) (QaW (by omega)) rfl rfl (by omega) (Zz hs)
  ·exact og [7] fun D J w hG hs=>Qac (V:=.slice a7 R2.length cb7) rfl (Zz hs)
  ·refine oy [7,12] [12] fun D J w hG hs=>?_
   have hgd0:=QQ2 (eq_of_beq (QbC (hG)))
   have hgd1:=QQ1 (eq_of_beq (QbG (hG)))
   exact Qax Qc3 Qcf.1 (hv7 _ _ hs) rfl rfl (by decide) (by rw [QQ6];omega) (Zz hs)
  ·exact oy [7,13] [13] fun D J w hG hs=>Qae QdD rfl (Zz hs)
  ·refine oy [7,14] [14] fun D J w hG hs=>?_
   have hgd0:=QQ2 (eq_of_beq (QbC (hG)))
   have hgd1:=QQ1 (eq_of_beq (QbG (hG)))
   exact QaU (j:=0) (V:=.int .u16 ((gd R2 0).item)) 0 Qar (hv7 _ _ hs) (QaW (by omega)) rfl rfl (by omega) (Zz hs)
  ·exact oy [7,11,15] [11,15] fun D J w hG hs=>QaS rfl rfl (Zz hs)
  ·exact oy [3,7,16] [7] fun D J w hG hs=>QfY (h':=decide ((gd R1 0).item<(gd R2 0).item)) (G:=((decide (((R2.length:Nat):Int)=0)) == false)) hG rfl rfl rfl (Zz hs)
  ·exact oa [3,17] fun D J w hs=>QbM (h':=(decide (0<((R1.length:Nat):Int)))&&(decide ((gd R1 0).item<(gd R2 0).item))) rfl rfl rfl (Zz hs)
  ·exact oa [18] fun D J w hs=>Qad (V:=.bool ((decide (((R2.length:Nat):Int)=0))||((decide (0<((R1.length:Nat):Int)))&&(decide ((gd R1 0).item<(gd R2 0).item))))) rfl (Zz hs)
  rintro J1 w12 J2 hJ hs
  replace hJ:J2=upd (mix (sq 44 19++[43]) J1 _) 43 (.bool ((decide (((R2.length:Nat):Int)=0))||((decide (0<((R1.length:Nat):Int)))&&(decide ((gd R1 0).item<(gd R2 0).item))))):=hJ
  subst hJ
  refine Qan (t:=(decide (((R2.length:Nat):Int)=0))||((decide (0<((R1.length:Nat):Int)))&&(decide ((gd R1 0).item<(gd R2 0).item)))) rfl (fun c13=>?_) (fun c13=>?_)
  ·
   refine Qag ?_
   have ⟨hn9,hz9⟩:=QuZ c8 c13
   refine QaJ HM [some 63,some 64,some 65,some 66,some 67,some 68,some 69,some 70,some 71,none,some 72,none] [] [0,1,3,7,0,16,48,112,15,271,1023,2047] [pv (.slice a6 R1.length cb6),pv (.pointer (some ⟨bkS (.slice a6 R1.length cb6),ofS (.slice a6 R1.length cb6)+(0:Int).toNat*2,none⟩)),pv (.pointer (some ⟨bkS (.slice a6 R1.length cb6),ofS (.slice a6 R1.length cb6)+(0:Int).toNat*2+0,none⟩)),pv (I7 ((gd R1 0).item)),pv (.slice a6 R1.length cb6),pv (.pointer (some ⟨bkS (.slice a6 R1.length cb6),ofS (.slice a6 R1.length cb6)+(0:Int).toNat*2,none⟩)),pv (.pointer (some ⟨bkS (.slice a6 R1.length cb6),ofS (.slice a6 R1.length cb6)+(0:Int).toNat*2+1,none⟩)),pv (.int .u32 ((gd R1 0).qty)),pv (Pq b9 (0+1)),pn,pv (Pq b9 (0+3)),pn] (fun D J=>[Qeu 60 83 b out,blk b1 [I7 va,.slice aa la.length ca,.bool ao,.int .u32 at_] 49,blk b3 [I7 vb,.slice ab lb.length cb,.bool bo,.int .u32 bt] 49,cond (D 11) (blk b9 (dfc (⟨vb,(gd R1 0).item,false,(gd R1 0).qty,0⟩:Dif)) 83) (cond (D 9) (blk b9 (dfc (⟨vb,(gd R1 0).item,false,0,0⟩:Dif)) 83) (blk b9 (dfc (⟨vb,0,false,0,0⟩:Dif)) 83))]) [] (by kernel_rfl) hs ⟨?_,?_,?_,?_,?_,?_,?_,?_,?_,?_,?_,?_,trivial⟩ ?_
   ·exact oa [] fun D J w hs=>Qac (V:=.slice a6 R1.length cb6) rfl (Zz hs)
   ·exact oa [0] fun D J w hs=>Qax Qc3 Qcf.1 (hv6 _ _ hs) rfl rfl (by decide) (by rw [QQ6];omega) (Zz hs)
   ·exact oa [1] fun D J w hs=>Qae QdD rfl (Zz hs)
   ·exact oa [2] fun D J w hs=>QaU (j:=0) (V:=.int .u16 ((gd R1 0).item)) 0 Qar (hv6 _ _ hs) (QaW (by omega)) rfl rfl (by omega) (Zz hs)
   ·exact oa [] fun D J w hs=>Qac (V:=.slice a6 R1.length cb6) rfl (Zz hs)
   ·exact oa [4] fun D J w hs=>Qax Qc3 Qcf.1 (hv6 _ _ hs) rfl rfl (by decide) (by rw [QQ6];omega) (Zz hs)
   ·exact oa [5] fun D J w hs=>Qae QfR rfl (Zz hs)
   ·exact oa [6] fun D J w hs=>QaU (j:=1) (V:=.int .u32 ((gd R1 0).qty)) 0 Qa8 (hv6 _ _ hs) (QaW (by omega)) rfl rfl (by omega) (Zz hs)
   ·exact oa [] fun D J w hs=>Qae Qi9 rfl (Zz hs)
   ·exact ob [3,8] [11] rfl rfl fun D J w hs=>QcR (V:=I7 ((gd R1 0).item)) (cs':=dfc (⟨vb,(gd R1 0).item,false,0,0⟩:Dif)) Qar hs 3 rfl rfl rfl rfl (QQ8 rfl) rfl fun _ hs=>⟨trivial,hs⟩
   ·exact oa [] fun D J w hs=>Qae Qgk rfl (Zz hs)
   ·exact oa [7,9,10] fun D J w hs=>QcR (V:=.int .u32 ((gd R1 0).qty)) (cs':=dfc (⟨vb,(gd R1 0).item,false,(gd R1 0).qty,0⟩:Dif)) Qa8 hs 3 rfl rfl rfl rfl (QQ8 rfl) rfl fun _ hs=>⟨trivial,hs⟩
   rintro J1 w16 J2 hJ hs
   replace hJ:J2=mix (sq 63 10) J1 _:=hJ
   replace hs:Own w S w16 [Qeu 60 83 b out,blk b1 [I7 va,.slice aa la.length ca,.bool ao,.int .u32 at_] 49,blk b3 [I7 vb,.slice ab lb.length cb,.bool bo,.int .u32 bt] 49,blk b9 (dfc (⟨vb,(gd R1 0).item,false,(gd R1 0).qty,0⟩:Dif)) 83]:=hs
   subst hJ
   refine Qab (Qaa (Qac (V:=.slice a6 R1.length cb6) rfl (Qaa (QpM (l:=1) (h:=R1.length) (m:=cb6) (n':=(R1.drop 1).length) Qki Qcf.1 (hv6 _ _ hs) rfl (.inr ⟨_,_,rfl,rfl⟩) (.inl ⟨rfl,rfl⟩) (.inl ⟨rfl,rfl⟩) (by omega) (by omega) (Nat.le_trans (show R1.length<=R1.length by omega) (Rd.roomM (hv6 _ _ hs))) (Nat.le_refl _) (by simp only [List.length_take,List.length_drop]<;>omega) ?_))))
   refine Qaa (Qad (V:=.slice (sla a6 1 cb6 2) ((R1.drop 1).length) (cb6-1)) rfl (Qaf (Qag (Qab (Qaa (Qae Qgk rfl (Qaa (QaF (V:=.int .u32 ((gd R1 0).qty)) Qa8 hs 3 rfl rfl rfl (Qaa (Qae Qf9 rfl (Qaa (QaF (V:=.int .u32 0) Qa8 hs 3 rfl rfl rfl (Qaa (Qb7 rfl rfl (Qaf (Qan (t:=!decide ((gd R1 0).qty=0)) rfl (fun c17=>?_) (fun c17=>?_)))))))))))))))))
   ·
    replace c17:=Qbs c17
    replace c17:=QQ2 c17
    refine Qab (Qaa (Qac (V:=.func (.func 65) #[] #[Pq b 0]) rfl (Qaa (QaI (cs:=dfc (⟨vb,(gd R1 0).item,false,(gd R1 0).qty,0⟩:Dif)) QiY hs 3 rfl rfl rfl (Qaa (QoM (α:=Unit) (vs:=[.agg (dfc (⟨vb,(gd R1 0).item,false,(gd R1 0).qty,0⟩:Dif)).toArray]) (cs:=[Pq b 0]) (V:=fun _=>.tuple #[]) (R:=Qeu 60 83 b out) (R':=fun _=>Qeu 60 83 b (out++[(⟨vb,(gd R1 0).item,false,(gd R1 0).qty,0⟩:Dif)])) (Lo:=fun _=>[]) (F:=fun _ _=>True) Qpi rfl rfl hs 0 rfl (fun S hS hlS=>QfM _ S b out (⟨vb,(gd R1 0).item,false,(gd R1 0).qty,0⟩:Dif) hS hlS (by omega)) fun _ w18 hs _=>(Qaf ?_)))))))
    have hd9:=Qm2 hra hrb hdi (by omega) (QfS hrr.2 hz9)
    refine ⟨_,?_,_,R1.drop 1,R2,I++[(gd R1 0).item],(out++[(⟨vb,(gd R1 0).item,false,(gd R1 0).qty,0⟩:Dif)]),(sla a6 1 cb6 2),cb6-1,a7,cb7,Qai (Qai (Qao (ds:=([6,7,8]++sq 13 97)) (by repeat (first|exact Agr.refl _ _|refine Agr.upd ?_ rfl|refine Agr.mix ?_ rfl))) rfl) rfl,hd9.1,(Qhy hout hd9.2.1 hd9.2.2 c17),(fun w1 L1 h=>Rd.dropM (hv6 w1 L1 h) 1 (by omega) _ (by rw [List.length_drop])),hv7,(by simp only [List.length_drop];omega),(by simp only [QQ7,List.length_singleton,List.length_drop];omega),rfl,hs.take 3⟩
    (simp only [List.length_drop];omega)
   replace c17:=Qbd c17
   replace c17:=QQ1 c17
   refine Qap ?_
   have hd9:=Qm2 hra hrb hdi (by omega) (QfS hrr.2 hz9)
   refine ⟨_,?_,_,R1.drop 1,R2,I++[(gd R1 0).item],out,(sla a6 1 cb6 2),cb6-1,a7,cb7,Qai (Qai (Qao (ds:=([6,7,8]++sq 13 97)) (by repeat (first|exact Agr.refl _ _|refine Agr.upd ?_ rfl|refine Agr.mix ?_ rfl))) rfl) rfl,hd9.1,(QmY hout hd9.2.1 hd9.2.2 c17),(fun w1 L1 h=>Rd.dropM (hv6 w1 L1 h) 1 (by omega) _ (by rw [List.length_drop])),hv7,(by simp only [List.length_drop];omega),(by simp only [List.length_drop];omega),rfl,hs.take 3⟩
   (simp only [List.length_drop];omega)
  have c13r:=Qeo c13
  replace c13:=Qet c13
  replace c13:=QQ2 c13
  refine Qag ?_
  have hn9:0<R2.length:=by omega
  refine QaJ HM [some 76,some 77,some 78,some 79,some 80,some 81,some 82,some 83,some 84,some 85,some 86,some 87,some 88,some 89,some 75] [] [0,1,3,7,15,31,63,127,15,271,783,1807,4095,8191,16383] [pv (.slice a6 R1.length cb6),pv (I6 ((R1.length:Nat):Int)),pv (.bool (decide (((R1.length:Nat):Int)=0))),pv (.bool (decide (((R1.length:Nat):Int)=0))),pg ((decide (((R1.length:Nat):Int)=0)) == false) (.slice a7 R2.length cb7),pg ((decide (((R1.length:Nat):Int)=0)) == false) (.pointer (some ⟨bkS (.slice a7 R2.length cb7),ofS (.slice a7 R2.length cb7)+(0:Int).toNat*2,none⟩)),pg ((decide (((R1.length:Nat):Int)=0)) == false) (.pointer (some ⟨bkS (.slice a7 R2.length cb7),ofS (.slice a7 R2.length cb7)+(0:Int).toNat*2+0,none⟩)),pg ((decide (((R1.length:Nat):Int)=0)) == false) (I7 ((gd R2 0).item)),pg ((decide (((R1.length:Nat):Int)=0)) == false) (.slice a6 R1.length cb6),pg ((decide (((R1.length:Nat):Int)=0)) == false) (.pointer (some ⟨bkS (.slice a6 R1.length cb6),ofS (.slice a6 R1.length cb6)+(0:Int).toNat*2,none⟩)),pg ((decide (((R1.length:Nat):Int)=0)) == false) (.pointer (some ⟨bkS (.slice a6 R1.length cb6),ofS (.slice a6 R1.length cb6)+(0:Int).toNat*2+0,none⟩)),pg ((decide (((R1.length:Nat):Int)=0)) == false) (I7 ((gd R1 0).item)),pg ((decide (((R1.length:Nat):Int)=0)) == false) (.bool (decide ((gd R2 0).item<(gd R1 0).item))),pv (.bool ((decide (((R1.length:Nat):Int)=0))||(decide ((gd R2 0).item<(gd R1 0).item)))),pv (.bool ((decide (((R1.length:Nat):Int)=0))||(decide ((gd R2 0).item<(gd R1 0).item))))] (fun _ _=>_) [14] (by kernel_rfl) hs ⟨?_,?_,?_,?_,?_,?_,?_,?_,?_,?_,?_,?_,?_,?_,?_,trivial⟩ ?_
  ·exact oa [] fun D J w hs=>Qac (V:=.slice a6 R1.length cb6) rfl (Zz hs)
  ·exact oa [0] fun D J w hs=>QaX (n:=R1.length) Qc3 (hv6 _ _ hs) (by simp) rfl (Zz hs)
  ·exact oa [1] fun D J w hs=>QaT rfl rfl (Zz hs)
  ·exact oa [2] fun D J w hs=>Qac (V:=.bool (decide (((R1.length:Nat):Int)=0))) rfl (Zz hs)
  ·exact og [3] fun D J w hG hs=>Qac (V:=.slice a7 R2.length cb7) rfl (Zz hs)
  ·refine oy [3,4] [4] fun D J w hG hs=>?_
   have hgd:=QQ2 (eq_of_beq (hG))
   exact Qax Qc3 Qcf.1 (hv7 _ _ hs) rfl rfl (by decide) (by rw [QQ6];omega) (Zz hs)
  ·exact oy [3,5] [5] fun D J w hG hs=>Qae QdD rfl (Zz hs)
  ·refine oy [3,6] [6] fun D J w hG hs=>?_
   have hgd:=QQ2 (eq_of_beq (hG))
   exact QaU (j:=0) (V:=.int .u16 ((gd R2 0).item)) 0 Qar (hv7 _ _ hs) (QaW (by omega)) rfl rfl (by omega) (Zz hs)
  ·exact og [3] fun D J w hG hs=>Qac (V:=.slice a6 R1.length cb6) rfl (Zz hs)
  ·refine oy [3,8] [8] fun D J w hG hs=>?_
   have hgd:=QQ2 (eq_of_beq (hG))
   exact Qax Qc3 Qcf.1 (hv6 _ _ hs) rfl rfl (by decide) (by rw [QQ6];omega) (Zz hs)
  ·exact oy [3,9] [9] fun D J w hG hs=>Qae QdD rfl (Zz hs)
  ·refine oy [3,10] [10] fun D J w hG hs=>?_
   have hgd:=QQ2 (eq_of_beq (hG))
   exact QaU (j:=0) (V:=.int .u16 ((gd R1 0).item)) 0 Qar (hv6 _ _ hs) (QaW (by omega)) rfl rfl (by omega) (Zz hs)
  ·exact oy [3,7,11] [7,11] fun D J w hG hs=>QaS rfl rfl (Zz hs)
  ·exact oa [3,12] fun D J w hs=>QbM (h':=decide ((gd R2 0).item<(gd R1 0).item)) rfl rfl rfl (Zz hs)
  ·exact oa [13] fun D J w hs=>Qad (V:=.bool ((decide (((R1.length:Nat):Int)=0))||(decide ((gd R2 0).item<(gd R1 0).item)))) rfl (Zz hs)
  rintro J1 w19 J2 hJ hs
  replace hJ:J2=upd (mix (sq 76 14++[75]) J1 _) 75 (.bool ((decide (((R1.length:Nat):Int)=0))||(decide ((gd R2 0).item<(gd R1 0).item)))):=hJ
  subst hJ
  refine Qan (t:=(decide (((R1.length:Nat):Int)=0))||(decide ((gd R2 0).item<(gd R1 0).item))) rfl (fun c20=>?_) (fun c20=>?_)
  ·
   refine Qag ?_
   have hz9:=Qvd hn9 c20
   refine QaJ HM [some 90,some 91,some 92,some 93,some 94,some 95,some 96,some 97,some 98,none,some 99,none] [] [0,1,3,7,0,16,48,112,15,271,1023,2047] [pv (.slice a7 R2.length cb7),pv (.pointer (some ⟨bkS (.slice a7 R2.length cb7),ofS (.slice a7 R2.length cb7)+(0:Int).toNat*2,none⟩)),pv (.pointer (some ⟨bkS (.slice a7 R2.length cb7),ofS (.slice a7 R2.length cb7)+(0:Int).toNat*2+0,none⟩)),pv (I7 ((gd R2 0).item)),pv (.slice a7 R2.length cb7),pv (.pointer (some ⟨bkS (.slice a7 R2.length cb7),ofS (.slice a7 R2.length cb7)+(0:Int).toNat*2,none⟩)),pv (.pointer (some ⟨bkS (.slice a7 R2.length cb7),ofS (.slice a7 R2.length cb7)+(0:Int).toNat*2+1,none⟩)),pv (.int .u32 ((gd R2 0).qty)),pv (Pq b9 (0+1)),pn,pv (Pq b9 (0+4)),pn] (fun D J=>[Qeu 60 83 b out,blk b1 [I7 va,.slice aa la.length ca,.bool ao,.int .u32 at_] 49,blk b3 [I7 vb,.slice ab lb.length cb,.bool bo,.int .u32 bt] 49,cond (D 11) (blk b9 (dfc (⟨vb,(gd R2 0).item,false,0,(gd R2 0).qty⟩:Dif)) 83) (cond (D 9) (blk b9 (dfc (⟨vb,(gd R2 0).item,false,0,0⟩:Dif)) 83) (blk b9 (dfc (⟨vb,0,false,0,0⟩:Dif)) 83))]) [] (by kernel_rfl) hs ⟨?_,?_,?_,?_,?_,?_,?_,?_,?_,?_,?_,?_,trivial⟩ ?_
   ·exact oa [] fun D J w hs=>Qac (V:=.slice a7 R2.length cb7) rfl (Zz hs)
   ·exact oa [0] fun D J w hs=>Qax Qc3 Qcf.1 (hv7 _ _ hs) rfl rfl (by decide) (by rw [QQ6];omega) (Zz hs)
   ·exact oa [1] fun D J w hs=>Qae QdD rfl (Zz hs)
   ·exact oa [2] fun D J w hs=>QaU (j:=0) (V:=.int .u16 ((gd R2 0).item)) 0 Qar (hv7 _ _ hs) (QaW (by omega)) rfl rfl (by omega) (Zz hs)
   ·exact oa [] fun D J w hs=>Qac (V:=.slice a7 R2.length cb7) rfl (Zz hs)
   ·exact oa [4] fun D J w hs=>Qax Qc3 Qcf.1 (hv7 _ _ hs) rfl rfl (by decide) (by rw [QQ6];omega) (Zz hs)
   ·exact oa [5] fun D J w hs=>Qae QfR rfl (Zz hs)
   ·exact oa [6] fun D J w hs=>QaU (j:=1) (V:=.int .u32 ((gd R2 0).qty)) 0 Qa8 (hv7 _ _ hs) (QaW (by omega)) rfl rfl (by omega) (Zz hs)
   ·exact oa [] fun D J w hs=>Qae Qi9 rfl (Zz hs)
   ·exact ob [3,8] [11] rfl rfl fun D J w hs=>QcR (V:=I7 ((gd R2 0).item)) (cs':=dfc (⟨vb,(gd R2 0).item,false,0,0⟩:Dif)) Qar hs 3 rfl rfl rfl rfl (QQ8 rfl) rfl fun _ hs=>⟨trivial,hs⟩
   ·exact oa [] fun D J w hs=>Qae Qf9 rfl (Zz hs)
   ·exact oa [7,9,10] fun D J w hs=>QcR (V:=.int .u32 ((gd R2 0).qty)) (cs':=dfc (⟨vb,(gd R2 0).item,false,0,(gd R2 0).qty⟩:Dif)) Qa8 hs 3 rfl rfl rfl rfl (QQ8 rfl) rfl fun _ hs=>⟨trivial,hs⟩
   rintro J1 w23 J2 hJ hs
   replace hJ:J2=mix (sq 90 10) J1 _:=hJ
   replace hs:Own w S w23 [Qeu 60 83 b out,blk b1 [I7 va,.slice aa la.length ca,.bool ao,.int .u32 at_] 49,blk b3 [I7 vb,.slice ab lb.length cb,.bool bo,.int .u32 bt] 49,blk b9 (dfc (⟨vb,(gd R2 0).item,false,0,(gd R2 0).qty⟩:Dif)) 83]:=hs
   subst hJ
   refine Qab (Qaa (Qac (V:=.slice a7 R2.length cb7) rfl (Qaa (QpM (l:=1) (h:=R2.length) (m:=cb7) (n':=(R2.drop 1).length) Qki Qcf.1 (hv7 _ _ hs) rfl (.inr ⟨_,_,rfl,rfl⟩) (.inl ⟨rfl,rfl⟩) (.inl ⟨rfl,rfl⟩) (by omega) (by omega) (Nat.le_trans (show R2.length<=R2.length by omega) (Rd.roomM (hv7 _ _ hs))) (Nat.le_refl _) (by simp only [List.length_take,List.length_drop]<;>omega) ?_))))
   refine Qaa (Qad (V:=.slice (sla a7 1 cb7 2) ((R2.drop 1).length) (cb7-1)) rfl (Qaf (Qag (Qab (Qaa (Qae Qgk rfl (Qaa (QaF (V:=.int .u32 0) Qa8 hs 3 rfl rfl rfl (Qaa (Qae Qf9 rfl (Qaa (QaF (V:=.int .u32 ((gd R2 0).qty)) Qa8 hs 3 rfl rfl rfl (Qaa (Qb7 rfl rfl (Qaf (Qan (t:=!decide (0=(gd R2 0).qty)) rfl (fun c24=>?_) (fun c24=>?_)))))))))))))))))
   ·
    replace c24:=Qbs c24
    replace c24:=QQ2 c24
    refine Qab (Qaa (Qac (V:=.func (.func 65) #[] #[Pq b 0]) rfl (Qaa (QaI (cs:=dfc (⟨vb,(gd R2 0).item,false,0,(gd R2 0).qty⟩:Dif)) QiY hs 3 rfl rfl rfl (Qaa (QoM (α:=Unit) (vs:=[.agg (dfc (⟨vb,(gd R2 0).item,false,0,(gd R2 0).qty⟩:Dif)).toArray]) (cs:=[Pq b 0]) (V:=fun _=>.tuple #[]) (R:=Qeu 60 83 b out) (R':=fun _=>Qeu 60 83 b (out++[(⟨vb,(gd R2 0).item,false,0,(gd R2 0).qty⟩:Dif)])) (Lo:=fun _=>[]) (F:=fun _ _=>True) Qpi rfl rfl hs 0 rfl (fun S hS hlS=>QfM _ S b out (⟨vb,(gd R2 0).item,false,0,(gd R2 0).qty⟩:Dif) hS hlS (by omega)) fun _ w25 hs _=>(Qaf ?_)))))))
    have hd9:=Qpv hra hrb hdi (by omega) (QfS hrr.1 hz9)
    refine ⟨_,?_,_,R1,R2.drop 1,I++[(gd R2 0).item],(out++[(⟨vb,(gd R2 0).item,false,0,(gd R2 0).qty⟩:Dif)]),a6,cb6,(sla a7 1 cb7 2),cb7-1,Qai (Qai (Qao (ds:=([6,7,8]++sq 13 97)) (by repeat (first|exact Agr.refl _ _|refine Agr.upd ?_ rfl|refine Agr.mix ?_ rfl))) rfl) rfl,hd9.1,(Qhy hout hd9.2.1 hd9.2.2 c24),hv6,(fun w1 L1 h=>Rd.dropM (hv7 w1 L1 h) 1 (by omega) _ (by rw [List.length_drop])),(by simp only [List.length_drop];omega),(by simp only [QQ7,List.length_singleton,List.length_drop];omega),rfl,hs.take 3⟩
    (simp only [List.length_drop];omega)
   replace c24:=Qbd c24
   replace c24:=QQ1 c24
   refine Qap ?_
   have hd9:=Qpv hra hrb hdi (by omega) (QfS hrr.1 hz9)
   refine ⟨_,?_,_,R1,R2.drop 1,I++[(gd R2 0).item],out,a6,cb6,(sla a7 1 cb7 2),cb7-1,Qai (Qai (Qao (ds:=([6,7,8]++sq 13 97)) (by repeat (first|exact Agr.refl _ _|refine Agr.upd ?_ rfl|refine Agr.mix ?_ rfl))) rfl) rfl,hd9.1,(QmY hout hd9.2.1 hd9.2.2 c24),hv6,(fun w1 L1 h=>Rd.dropM (hv7 w1 L1 h) 1 (by omega) _ (by rw [List.length_drop])),(by simp only [List.length_drop];omega),(by simp only [List.length_drop];omega),rfl,hs.take 3⟩
   (simp only [List.length_drop];omega)
  have c20r:=Qeo c20
  replace c20:=Qet c20
  replace c20:=QQ2 c20
  replace c20r:=QQ2 c20r
  refine Qag ?_
  have hz9:=QvS c13r (by omega) (by omega)
  refine QaJ HM [some 24,some 25,some 26,some 27,some 28,some 29,some 30,some 31,some 32,some 33,some 34,some 35,some 36,none,some 37,none,some 38,none] [] [0,1,3,7,0,16,48,112,0,256,768,1792,15,4111,12543,28927,65535,131071] [pv (.slice a6 R1.length cb6),pv (.pointer (some ⟨bkS (.slice a6 R1.length cb6),ofS (.slice a6 R1.length cb6)+(0:Int).toNat*2,none⟩)),pv (.pointer (some ⟨bkS (.slice a6 R1.length cb6),ofS (.slice a6 R1.length cb6)+(0:Int).toNat*2+0,none⟩)),pv (I7 ((gd R1 0).item)),pv (.slice a6 R1.length cb6),pv (.pointer (some ⟨bkS (.slice a6 R1.length cb6),ofS (.slice a6 R1.length cb6)+(0:Int).toNat*2,none⟩)),pv (.pointer (some ⟨bkS (.slice a6 R1.length cb6),ofS (.slice a6 R1.length cb6)+(0:Int).toNat*2+1,none⟩)),pv (.int .u32 ((gd R1 0).qty)),pv (.slice a7 R2.length cb7),pv (.pointer (some ⟨bkS (.slice a7 R2.length cb7),ofS (.slice a7 R2.length cb7)+(0:Int).toNat*2,none⟩)),pv (.pointer (some ⟨bkS (.slice a7 R2.length cb7),ofS (.slice a7 R2.length cb7)+(0:Int).toNat*2+1,none⟩)),pv (.int .u32 ((gd R2 0).qty)),pv (Pq b9 (0+1)),pn,pv (Pq b9 (0+3)),pn,pv (Pq b9 (0+4)),pn] (fun D J=>[Qeu 60 83 b out,blk b1 [I7 va,.slice aa la.length ca,.bool ao,.int .u32 at_] 49,blk b3 [I7 vb,.slice ab lb.length cb,.bool bo,.int .u32 bt] 49,cond (D 17) (blk b9 (dfc (⟨vb,(gd R1 0).item,false,(gd R1 0).qty,(gd R2 0).qty⟩:Dif)) 83) (cond (D 15) (blk b9 (dfc (⟨vb,(gd R1 0).item,false,(gd R1 0).qty,0⟩:Dif)) 83) (cond (D 13) (blk b9 (dfc (⟨vb,(gd R1 0).item,false,0,0⟩:Dif)) 83) (blk b9 (dfc (⟨vb,0,false,0,0⟩:Dif)) 83)))]) [] (by kernel_rfl) hs ⟨?_,?_,?_,?_,?_,?_,?_,?_,?_,?_,?_,?_,?_,?_,?_,?_,?_,?_,trivial⟩ ?_
  ·exact oa [] fun D J w hs=>Qac (V:=.slice a6 R1.length cb6) rfl (Zz hs)
  ·exact oa [0] fun D J w hs=>Qax Qc3 Qcf.1 (hv6 _ _ hs) rfl rfl (by decide) (by rw [QQ6];omega) (Zz hs)
  ·exact oa [1] fun D J w hs=>Qae QdD rfl (Zz hs)
  ·exact oa [2] fun D J w hs=>QaU (j:=0) (V:=.int .u16 ((gd R1 0).item)) 0 Qar (hv6 _ _ hs) (QaW (by omega)) rfl rfl (by omega) (Zz hs)
  ·exact oa [] fun D J w hs=>Qac (V:=.slice a6 R1.length cb6) rfl (Zz hs)
  ·exact oa [4] fun D J w hs=>Qax Qc3 Qcf.1 (hv6 _ _ hs) rfl rfl (by decide) (by rw [QQ6];omega) (Zz hs)
  ·exact oa [5] fun D J w hs=>Qae QfR rfl (Zz hs)
  ·exact oa [6] fun D J w hs=>QaU (j:=1) (V:=.int .u32 ((gd R1 0).qty)) 0 Qa8 (hv6 _ _ hs) (QaW (by omega)) rfl rfl (by omega) (Zz hs)
  ·exact oa [] fun D J w hs=>Qac (V:=.slice a7 R2.length cb7) rfl (Zz hs)
  ·exact oa [8] fun D J w hs=>Qax Qc3 Qcf.1 (hv7 _ _ hs) rfl rfl (by decide) (by rw [QQ6];omega) (Zz hs)
  ·exact oa [9] fun D J w hs=>Qae QfR rfl (Zz hs)
  ·exact oa [10] fun D J w hs=>QaU (j:=1) (V:=.int .u32 ((gd R2 0).qty)) 0 Qa8 (hv7 _ _ hs) (QaW (by omega)) rfl rfl (by omega) (Zz hs)
  ·exact oa [] fun D J w hs=>Qae Qi9 rfl (Zz hs)
  ·exact ob [3,12] [15,17] rfl rfl fun D J w hs=>QcR (V:=I7 ((gd R1 0).item)) (cs':=dfc (⟨vb,(gd R1 0).item,false,0,0⟩:Dif)) Qar hs 3 rfl rfl rfl rfl (QQ8 rfl) rfl fun _ hs=>⟨trivial,hs⟩
  ·exact oa [] fun D J w hs=>Qae Qgk rfl (Zz hs)
  ·exact ob [7,13,14] [17] rfl rfl fun D J w hs=>QcR (V:=.int .u32 ((gd R1 0).qty)) (cs':=dfc (⟨vb,(gd R1 0).item,false,(gd R1 0).qty,0⟩:Dif)) Qa8 hs 3 rfl rfl rfl rfl (QQ8 rfl) rfl fun _ hs=>⟨trivial,hs⟩
  ·exact oa [] fun D J w hs=>Qae Qf9 rfl (Zz hs)
  ·exact oa [11,13,15,16] fun D J w hs=>QcR (V:=.int .u32 ((gd R2 0).qty)) (cs':=dfc (⟨vb,(gd R1 0).item,false,(gd R1 0).qty,(gd R2 0).qty⟩:Dif)) Qa8 hs 3 rfl rfl rfl rfl (QQ8 rfl) rfl fun _ hs=>⟨trivial,hs⟩
  rintro J1 w29 J2 hJ hs
  replace hJ:J2=mix (sq 24 15) J1 _:=hJ
  replace hs:Own w S w29 [Qeu 60 83 b out,blk b1 [I7 va,.slice aa la.length ca,.bool ao,.int .u32 at_] 49,blk b3 [I7 vb,.slice ab lb.length cb,.bool bo,.int .u32 bt] 49,blk b9 (dfc (⟨vb,(gd R1 0).item,false,(gd R1 0).qty,(gd R2 0).qty⟩:Dif)) 83]:=hs
  subst hJ
  refine QaJ HM [some 39,some 40,some 41,some 42,some 6,some 7] [] [0,1,0,4,3,31] [pv (.slice a6 R1.length cb6),pv (.slice (sla a6 1 cb6 2) ((R1.drop 1).length) (cb6-1)),pv (.slice a7 R2.length cb7),pv (.slice (sla a7 1 cb7 2) ((R2.drop 1).length) (cb7-1)),pv (.slice (sla a6 1 cb6 2) ((R1.drop 1).length) (cb6-1)),pv (.slice (sla a7 1 cb7 2) ((R2.drop 1).length) (cb7-1))] (fun _ _=>_) [5,4] (by kernel_rfl) hs ⟨?_,?_,?_,?_,?_,?_,trivial⟩ ?_
  ·exact ob [] [4] rfl rfl fun D J w hs=>Qac (V:=.slice a6 R1.length cb6) rfl (Zz hs)
  ·exact oa [0] fun D J w hs=>QpM (l:=1) (h:=R1.length) (m:=cb6) (n':=(R1.drop 1).length) Qki Qcf.1 (hv6 _ _ hs) rfl (.inr ⟨_,_,rfl,rfl⟩) (.inl ⟨rfl,rfl⟩) (.inl ⟨rfl,rfl⟩) (by omega) (by omega) (Nat.le_trans (show R1.length<=R1.length by omega) (Rd.roomM (hv6 _ _ hs))) (Nat.le_refl _) (by simp only [List.length_take,List.length_drop]<;>omega) (Zz hs)
  ·exact ob [] [5] rfl rfl fun D J w hs=>Qac (V:=.slice a7 R2.length cb7) rfl (Zz hs)
  ·exact oa [2] fun D J w hs=>QpM (l:=1) (h:=R2.length) (m:=cb7) (n':=(R2.drop 1).length) Qki Qcf.1 (hv7 _ _ hs) rfl (.inr ⟨_,_,rfl,rfl⟩) (.inl ⟨rfl,rfl⟩) (.inl ⟨rfl,rfl⟩) (by omega) (by omega) (Nat.le_trans (show R2.length<=R2.length by omega) (Rd.roomM (hv7 _ _ hs))) (Nat.le_refl _) (by simp only [List.length_take,List.length_drop]<;>omega) (Zz hs)
  ·exact oa [1] fun D J w hs=>Qad (V:=.slice (sla a6 1 cb6 2) ((R1.drop 1).length) (cb6-1)) rfl (Zz hs)
  ·exact oa [3] fun D J w hs=>Qad (V:=.slice (sla a7 1 cb7 2) ((R2.drop 1).length) (cb7-1)) rfl (Zz hs)
  rintro J1 w30 J2 hJ hs
  replace hJ:J2=upd (upd (mix [39,40,41,42,6,7] J1 _) 6 (.slice (sla a6 1 cb6 2) ((R1.drop 1).length) (cb6-1))) 7 (.slice (sla a7 1 cb7 2) ((R2.drop 1).length) (cb7-1)):=hJ
  subst hJ
  refine Qag (Qab (Qaa (Qae Qgk rfl (Qaa (QaF (V:=.int .u32 ((gd R1 0).qty)) Qa8 hs 3 rfl rfl rfl (Qaa (Qae Qf9 rfl (Qaa (QaF (V:=.int .u32 ((gd R2 0).qty)) Qa8 hs 3 rfl rfl rfl (Qaa (Qb7 rfl rfl (Qaf (Qan (t:=!decide ((gd R1 0).qty=(gd R2 0).qty)) rfl (fun c31=>?_) (fun c31=>?_))))))))))))))
  ·
   replace c31:=Qbs c31
   replace c31:=QQ2 c31
   refine Qab (Qaa (Qac (V:=.func (.func 65) #[] #[Pq b 0]) rfl (Qaa (QaI (cs:=dfc (⟨vb,(gd R1 0).item,false,(gd R1 0).qty,(gd R2 0).qty⟩:Dif)) QiY hs 3 rfl rfl rfl (Qaa (QoM (α:=Unit) (vs:=[.agg (dfc (⟨vb,(gd R1 0).item,false,(gd R1 0).qty,(gd R2 0).qty⟩:Dif)).toArray]) (cs:=[Pq b 0]) (V:=fun _=>.tuple #[]) (R:=Qeu 60 83 b out) (R':=fun _=>Qeu 60 83 b (out++[(⟨vb,(gd R1 0).item,false,(gd R1 0).qty,(gd R2 0).qty⟩:Dif)])) (Lo:=fun _=>[]) (F:=fun _ _=>True) Qpi rfl rfl hs 0 rfl (fun S hS hlS=>QfM _ S b out (⟨vb,(gd R1 0).item,false,(gd R1 0).qty,(gd R2 0).qty⟩:Dif) hS hlS (by omega)) fun _ w32 hs _=>(Qaf ?_)))))))
   have hd9:=Qqa hra hrb hdi (by omega) (by omega) hz9
   refine ⟨_,?_,_,R1.drop 1,R2.drop 1,I++[(gd R1 0).item],(out++[(⟨vb,(gd R1 0).item,false,(gd R1 0).qty,(gd R2 0).qty⟩:Dif)]),(sla a6 1 cb6 2),cb6-1,(sla a7 1 cb7 2),cb7-1,Qai (Qai (Qao (ds:=([6,7,8]++sq 13 97)) (by repeat (first|exact Agr.refl _ _|refine Agr.upd ?_ rfl|refine Agr.mix ?_ rfl))) rfl) rfl,hd9.1,(Qhy hout hd9.2.1 hd9.2.2 c31),(fun w1 L1 h=>Rd.dropM (hv6 w1 L1 h) 1 (by omega) _ (by rw [List.length_drop])),(fun w1 L1 h=>Rd.dropM (hv7 w1 L1 h) 1 (by omega) _ (by rw [List.length_drop])),(by simp only [List.length_drop];omega),(by simp only [QQ7,List.length_singleton,List.length_drop];omega),rfl,hs.take 3⟩
   (simp only [List.length_drop];omega)
  replace c31:=Qbd c31
  replace c31:=QQ1 c31
  refine Qap ?_
  have hd9:=Qqa hra hrb hdi (by omega) (by omega) hz9
  refine ⟨_,?_,_,R1.drop 1,R2.drop 1,I++[(gd R1 0).item],out,(sla a6 1 cb6 2),cb6-1,(sla a7 1 cb7 2),cb7-1,Qai (Qai (Qao (ds:=([6,7,8]++sq 13 97)) (by repeat (first|exact Agr.refl _ _|refine Agr.upd ?_ rfl|refine Agr.mix ?_ rfl))) rfl) rfl,hd9.1,(QmY hout hd9.2.1 hd9.2.2 c31),(fun w1 L1 h=>Rd.dropM (hv6 w1 L1 h) 1 (by omega) _ (by rw [List.length_drop])),(fun w1 L1 h=>Rd.dropM (hv7 w1 L1 h) 1 (by omega) _ (by rw [List.length_drop])),(by simp only [List.length_drop];omega),(by simp only [List.length_drop];omega),rfl,hs.take 3⟩
  (simp only [List.length_drop];omega)
 have c8r:=Qeo c8
 replace c8:=Qet c8
 replace c8:=QQ2 c8
 replace c8r:=QQ2 c8r
 refine QaH (Qag (Qab (Qaa (Qae Qdi rfl (Qaa (QaF (V:=.bool ao) Qnt hs 1 rfl rfl rfl (Qaa (Qae Qdi rfl (Qaa (QaF (V:=.bool bo) Qnt hs 2 rfl rfl rfl (Qaa (Qs0 Qsd rfl rfl (Qaf (Qan (t:=!(ao == bo)) rfl (fun c33=>?_) (fun c33=>?_)))))))))))))))
 ·
  replace c33:=Qbs c33
  refine QaJ HM [some 115,some 116,some 117,some 118,some 119,some 120,some 121,some 122,some 123,some 124,some 125] [] [0,0,2,0,8,24,0,64,248,510,1023] [pv (.func (.func 65) #[] #[Pq b 0]),pv (Pq b3 (0+0)),pv (I7 vb),pv (Pq b1 (0+2)),pv (.bool ao),pv (.int .u32 (Qe3 ao)),pv (Pq b3 (0+2)),pv (.bool bo),pv (.int .u32 (Qe3 bo)),pv (.agg (dfc (⟨vb,0,true,Qe3 ao,Qe3 bo⟩:Dif)).toArray),pv (.tuple #[])] (fun D J=>[cond (D 10) (Qeu 60 83 b (out++[(⟨vb,0,true,Qe3 ao,Qe3 bo⟩:Dif)])) (Qeu 60 83 b out),blk b1 [I7 va,.slice aa la.length ca,.bool ao,.int .u32 at_] 49,blk b3 [I7 vb,.slice ab lb.length cb,.bool bo,.int .u32 bt] 49]) [] (by kernel_rfl) hs ⟨?_,?_,?_,?_,?_,?_,?_,?_,?_,?_,?_,trivial⟩ ?_
  ·exact oa [] fun D J w hs=>Qac (V:=.func (.func 65) #[] #[.pointer (some ⟨b,0,none⟩)]) rfl (Zz hs)
  ·exact oa [] fun D J w hs=>Qae QhD rfl (Zz hs)
  ·exact oa [1] fun D J w hs=>QaF (V:=.int .u16 vb) Qar hs 2 rfl rfl rfl (Zz hs)
  ·exact oa [] fun D J w hs=>Qae Qdi rfl (Zz hs)
  ·exact oa [3] fun D J w hs=>QaF (V:=.bool ao) Qnt hs 1 rfl rfl rfl (Zz hs)
  ·exact oa [4] fun D J w hs=>Qau (vs:=[.bool ao]) (V:=.int .u32 (Qe3 ao)) Qp7 rfl rfl (Qkj _ ao) hs fun _ hs=>Zz hs
  ·exact oa [] fun D J w hs=>Qae Qdi rfl (Zz hs)
  ·exact oa [6] fun D J w hs=>QaF (V:=.bool bo) Qnt hs 2 rfl rfl rfl (Zz hs)
  ·exact oa [7] fun D J w hs=>Qau (vs:=[.bool bo]) (V:=.int .u32 (Qe3 bo)) Qp7 rfl rfl (Qkj _ bo) hs fun _ hs=>Zz hs
  ·exact oa [2,5,8] fun D J w hs=>Qby (vs:=[(0,.int .u16 vb),(2,.bool true),(3,.int .u32 (Qe3 ao)),(4,.int .u32 (Qe3 bo))]) (cs:=dfc (⟨vb,0,true,Qe3 ao,Qe3 bo⟩:Dif)) Qqf (rfl) rfl (Zz hs)
  ·exact oa [0,9] fun D J w hs=>QoM (α:=Unit) (vs:=[.agg (dfc (⟨vb,0,true,Qe3 ao,Qe3 bo⟩:Dif)).toArray]) (cs:=[.pointer (some ⟨b,0,none⟩)]) (V:=fun _=>.tuple #[]) (R:=Qeu 60 83 b out) (R':=fun _=>Qeu 60 83 b (out++[(⟨vb,0,true,Qe3 ao,Qe3 bo⟩:Dif)])) (Lo:=fun _=>[]) (F:=fun _ _=>True) Qpi rfl rfl hs 0 rfl (fun S hS hlS=>QfM _ S b out (⟨vb,0,true,Qe3 ao,Qe3 bo⟩:Dif) hS hlS (by omega)) fun _ _ hs _=>⟨rfl,hs⟩
  rintro J1 w37 J2 hJ hs
  replace hJ:J2=mix (sq 115 11) J1 _:=hJ
  replace hs:Own w S w37 [Qeu 60 83 b (out++[(⟨vb,0,true,Qe3 ao,Qe3 bo⟩:Dif)]),blk b1 [I7 va,.slice aa la.length ca,.bool ao,.int .u32 at_] 49,blk b3 [I7 vb,.slice ab lb.length cb,.bool bo,.int .u32 bt] 49]:=hs
  subst hJ
  refine ⟨_,Qbr Tryz.results64,?_⟩
  have hof:=Qke hdi (by omega) (by omega) hout
  have hX:(out++[(⟨vb,0,true,Qe3 ao,Qe3 bo⟩:Dif)])=L++QeG (⟨va,la,ao,at_⟩:Vw) (⟨vb,lb,bo,bt⟩:Vw):=QmN hof (fun e=>by subst e;simp at c33)
  exact ⟨(),rfl,by rw [← hX];exact hs.only 0 rfl,trivial⟩
 replace c33:=Qbd c33
 refine Qap ?_
 refine ⟨_,Qbr Tryz.results64,?_⟩
 have hof:=Qke hdi (by omega) (by omega) hout
 have hX:out=L++QeG (⟨va,la,ao,at_⟩:Vw) (⟨vb,lb,bo,bt⟩:Vw):=QmV hof (eq_of_beq c33)
 exact ⟨(),rfl,by rw [← hX];exact hs.only 0 rfl,trivial⟩
end Tt
end Go.Proofs
namespace Go.Proofs
open Go Go.Vx Go.RowKit
namespace Tt
theorem Qox (w:World) (p:Pst) (a1:Option Addr) (c1:Nat) (a2:Option Addr) (c2:Nat) (a3:Option Addr) (c3:Nat) (a b:Vec) (ha:QbX a) (hb:QbX b) (hsortE:QgW Tryz.prog 48 49 cec 106 7 QjK) (hsortU:QgX Tryz.prog 134 .u16 32) (hok:Qdw p) (hle:p.base.ents.length<=400) (hlt:p.base.ticks.length<=400) (hlo:p.ops.length<=400) (hr1:Rd w (.slice a1 p.base.ents.length c1) 7 (p.base.ents.map cec)) (hr2:Rd w (.slice a2 p.base.ticks.length c2) 2 (p.base.ticks.map lsc)) (hr3:Rd w (.slice a3 p.ops.length c3) 23 (p.ops.map oc)):Calls Tryz.prog 22 #[.agg (((vc p.base.known)++[(.slice a1 p.base.ents.length c1:Value),(.slice a2 p.base.ticks.length c2:Value) ])++[(.slice a3 p.ops.length c3:Value) ]++(vc p.known)).toArray,.agg (vc a).toArray,.agg (vc b).toArray] w (fun e w'=>∃ x:Option Addr × Nat,e = .returned (.tuple #[.slice x.1 (QcU p a b).length x.2,.int .i64 (Qc9 p a b)])/\Own w no w' [row (.slice x.1 (QcU p a b).length x.2) ((QcU p a b).map dfc) 83 5]/\True):=by
 refine Qaj (n:=55) Tryz.func22 rfl Tryz.ntmps22 rfl ?_
 have hs:=Own.start w
 have ⟨hokb,hoko,hokk⟩:=hok
 have hsa:=QcG p a
 have hsoa:=QdY (cut:=a) hok ha
 have hsb:=QcG p b
 have hsob:=QdY (cut:=b) hok hb
 refine Qag (Qab (Qaa (QaR (V:=.agg (((vc p.base.known)++[(.slice a1 p.base.ents.length c1:Value),(.slice a2 p.base.ticks.length c2:Value) ])++[(.slice a3 p.ops.length c3:Value) ]++(vc p.known)).toArray) (cs:=((vc p.base.known)++[(.slice a1 p.base.ents.length c1:Value),(.slice a2 p.base.ticks.length c2:Value) ])++[(.slice a3 p.ops.length c3:Value) ]++(vc p.known)) rfl rfl hs fun b1 w2 hs=>(Qaa (QaR (V:=.agg (vc a).toArray) (cs:=vc a) rfl rfl hs fun b3 w4 hs=>(Qaa (QaR (V:=.agg (vc b).toArray) (cs:=vc b) rfl rfl hs fun b5 w6 hs=>(Qaa (Qad (V:=.slice none 0 0) rfl (Qaa (Qad (V:=I6 0) rfl (Qaf (Qag (Qab (Qaa (QaI (cs:=((vc p.base.known)++[(.slice a1 p.base.ents.length c1:Value),(.slice a2 p.base.ticks.length c2:Value) ])++[(.slice a3 p.ops.length c3:Value) ]++(vc p.known)) QeE hs 0 rfl rfl rfl (Qaa (QaI (cs:=vc a) Qbt hs 1 rfl rfl rfl (Qaa (Qbf (α:=(Option Addr × Nat) × (Option Addr × Nat)) (vs:=[.agg (((vc p.base.known)++[(.slice a1 p.base.ents.length c1:Value),(.slice a2 p.base.ticks.length c2:Value) ])++[(.slice a3 p.ops.length c3:Value) ]++(vc p.known)).toArray,.agg (vc a).toArray]) (V:=fun x:(Option Addr × Nat) × (Option Addr × Nat)=>.tuple #[.agg (vc (Qah p a).known++[(.slice x.1.1 ((Qah p a).ents).length x.1.2:Value),(.slice x.2.1 ((Qah p a).ticks).length x.2.2:Value)]).toArray,I6 (QaY p a)]) (Lo:=fun x=>[row (.slice x.1.1 ((Qah p a).ents).length x.1.2) (((Qah p a).ents).map cec) 106 7,row (.slice x.2.1 ((Qah p a).ticks).length x.2.2) (((Qah p a).ticks).map lsc) 102 2]) (F:=fun _ _=>True) QkA rfl rfl ?hc hs fun x8 w7 hs _=>?_))))))))))))))))))))
 case hc=>exact (Qdx _ p a1 c1 a2 c2 a3 c3 a ha hsortE hsortU hok hle hlt hlo (Rd.own' hr1 hs) (Rd.own' hr2 hs) (Rd.own' hr3 hs))
 replace hs:Own w no w7 [blk b1 (((vc p.base.known)++[(.slice a1 p.base.ents.length c1:Value),(.slice a2 p.base.ticks.length c2:Value) ])++[(.slice a3 p.ops.length c3:Value) ]++(vc p.known)) 43,blk b3 (vc a) 24,blk b5 (vc b) 24,row (.slice x8.1.1 (((Qah p a).ents).length) x8.1.2) (((Qah p a).ents).map cec) 106 7,row (.slice x8.2.1 (((Qah p a).ticks).length) x8.2.2) (((Qah p a).ticks).map lsc) 102 2]:=hs
 refine Qaa (Qac (V:=.tuple #[.agg ((vc ((Qah p a).known))++[(.slice x8.1.1 (((Qah p a).ents).length) x8.1.2:Value),(.slice x8.2.1 (((Qah p a).ticks).length) x8.2.2:Value) ]).toArray,I6 (QaY p a)]) rfl (Qaa (Qaz (V:=.agg ((vc ((Qah p a).known))++[(.slice x8.1.1 (((Qah p a).ents).length) x8.1.2:Value),(.slice x8.2.1 (((Qah p a).ticks).length) x8.2.2:Value) ]).toArray) rfl rfl (Qaa (Qaz (V:=I6 (QaY p a)) rfl rfl (Qaa (QaK (cs:=(vc vzero)++[(.slice none 0 0:Value),(.slice none 0 0:Value) ]) QgU rfl hs fun b9 w10 hs=>(Qaa (Qcq (V:=.agg ((vc ((Qah p a).known))++[(.slice x8.1.1 (((Qah p a).ents).length) x8.1.2:Value),(.slice x8.2.1 (((Qah p a).ticks).length) x8.2.2:Value) ]).toArray) (vs:=(vc ((Qah p a).known))++[(.slice x8.1.1 (((Qah p a).ents).length) x8.1.2:Value),(.slice x8.2.1 (((Qah p a).ticks).length) x8.2.2:Value) ]) (cs':=(vc ((Qah p a).known))++[(.slice x8.1.1 (((Qah p a).ents).length) x8.1.2:Value),(.slice x8.2.1 (((Qah p a).ticks).length) x8.2.2:Value) ]) QcD.1 hs 5 rfl rfl rfl rfl rfl (QQ8 rfl) (QbB (Qcd _) (Qat rfl (Qat rfl Qa9))) (Qay rfl) fun w11 hs=>(Qaa (Qad (V:=I6 (QaY p a)) rfl (Qaf (Qag (Qag (Qab (Qaa (Qac (V:=I6 (QaY p a)) rfl (Qaa (Qb7 rfl rfl (Qaf (Qan (t:=!decide (QaY p a=0)) rfl (fun c12=>?_) (fun c12=>?_))))))))))))))))))))))
 ·
  replace c12:=Qbs c12
  replace c12:=QQ2 c12
  refine Qag (Qab (Qaa (Qac (V:=I6 (QaY p a)) rfl (Qaa (Qad (V:=.slice none 0 0) rfl (Qaa (Qad (V:=I6 (QaY p a)) rfl (Qaf (Qaw ?_)))))))))
  refine ⟨_,Qbw (U:=.slice none 0 0) (V:=I6 (QaY p a)) Tryz.results22 rfl rfl,?_⟩
  have hX:Qc9 p a b=QaY p a:=Qqq c12
  rw [Qjc (by rw [hX];exact c12),hX]
  exact ⟨(none,0),rfl,(hs.take 0).more _ (Qbo _ _ _ _),trivial⟩
 replace c12:=Qbd c12
 replace c12:=QQ1 c12
 refine Qap (Qag (Qab (Qaa (QaI (cs:=((vc p.base.known)++[(.slice a1 p.base.ents.length c1:Value),(.slice a2 p.base.ticks.length c2:Value) ])++[(.slice a3 p.ops.length c3:Value) ]++(vc p.known)) QeE hs 0 rfl rfl rfl (Qaa (QaI (cs:=vc b) Qbt hs 2 rfl rfl rfl (Qaa (Qbf (α:=(Option Addr × Nat) × (Option Addr × Nat)) (vs:=[.agg (((vc p.base.known)++[(.slice a1 p.base.ents.length c1:Value),(.slice a2 p.base.ticks.length c2:Value) ])++[(.slice a3 p.ops.length c3:Value) ]++(vc p.known)).toArray,.agg (vc b).toArray]) (V:=fun x:(Option Addr × Nat) × (Option Addr × Nat)=>.tuple #[.agg (vc (Qah p b).known++[(.slice x.1.1 ((Qah p b).ents).length x.1.2:Value),(.slice x.2.1 ((Qah p b).ticks).length x.2.2:Value)]).toArray,I6 (QaY p b)]) (Lo:=fun x=>[row (.slice x.1.1 ((Qah p b).ents).length x.1.2) (((Qah p b).ents).map cec) 106 7,row (.slice x.2.1 ((Qah p b).ticks).length x.2.2) (((Qah p b).ticks).map lsc) 102 2]) (F:=fun _ _=>True) QkA rfl rfl ?hc hs fun x14 w13 hs _=>?_))))))))
 case hc=>exact (Qdx _ p a1 c1 a2 c2 a3 c3 b hb hsortE hsortU hok hle hlt hlo (Rd.own' hr1 hs) (Rd.own' hr2 hs) (Rd.own' hr3 hs))
 refine Qaa (Qac (V:=.tuple #[.agg ((vc ((Qah p b).known))++[(.slice x14.1.1 (((Qah p b).ents).length) x14.1.2:Value),(.slice x14.2.1 (((Qah p b).ticks).length) x14.2.2:Value) ]).toArray,I6 (QaY p b)]) rfl (Qaa (Qaz (V:=.agg ((vc ((Qah p b).known))++[(.slice x14.1.1 (((Qah p b).ents).length) x14.1.2:Value),(.slice x14.2.1 (((Qah p b).ticks).length) x14.2.2:Value) ]).toArray) rfl rfl (Qaa (Qaz (V:=I6 (QaY p b)) rfl rfl (Qaa (QaK (cs:=(vc vzero)++[(.slice none 0 0:Value),(.slice none 0 0:Value) ]) QgU rfl hs fun b15 w16 hs=>?_)))))))
 replace hs:Own w no w16 [blk b1 (((vc p.base.known)++[(.slice a1 p.base.ents.length c1:Value),(.slice a2 p.base.ticks.length c2:Value) ])++[(.slice a3 p.ops.length c3:Value) ]++(vc p.known)) 43,blk b3 (vc a) 24,blk b5 (vc b) 24,row (.slice x8.1.1 (((Qah p a).ents).length) x8.1.2) (((Qah p a).ents).map cec) 106 7,row (.slice x8.2.1 (((Qah p a).ticks).length) x8.2.2) (((Qah p a).ticks).map lsc) 102 2,blk b9 ((vc ((Qah p a).known))++[(.slice x8.1.1 (((Qah p a).ents).length) x8.1.2:Value),(.slice x8.2.1 (((Qah p a).ticks).length) x8.2.2:Value) ]) 38,row (.slice x14.1.1 (((Qah p b).ents).length) x14.1.2) (((Qah p b).ents).map cec) 106 7,row (.slice x14.2.1 (((Qah p b).ticks).length) x14.2.2) (((Qah p b).ticks).map lsc) 102 2,blk b15 ((vc vzero)++[(.slice none 0 0:Value),(.slice none 0 0:Value) ]) 38]:=hs
 refine Qaa (Qcq (V:=.agg ((vc ((Qah p b).known))++[(.slice x14.1.1 (((Qah p b).ents).length) x14.1.2:Value),(.slice x14.2.1 (((Qah p b).ticks).length) x14.2.2:Value) ]).toArray) (vs:=(vc ((Qah p b).known))++[(.slice x14.1.1 (((Qah p b).ents).length) x14.1.2:Value),(.slice x14.2.1 (((Qah p b).ticks).length) x14.2.2:Value) ]) (cs':=(vc ((Qah p b).known))++[(.slice x14.1.1 (((Qah p b).ents).length) x14.1.2:Value),(.slice x14.2.1 (((Qah p b).ticks).length) x14.2.2:Value) ]) QcD.1 hs 8 rfl rfl rfl rfl rfl (QQ8 rfl) (QbB (Qcd _) (Qat rfl (Qat rfl Qa9))) (Qay rfl) fun w17 hs=>(Qaa (Qad (V:=I6 (QaY p b)) rfl (Qaf (Qag (Qam (Qag (Qab (Qaa (Qac (V:=I6 (QaY p b)) rfl (Qaa (Qb7 rfl rfl (Qaa (Qad (V:=.bool (!decide (QaY p b=0))) rfl (Qaf (Qan (t:=!decide (QaY p b=0)) rfl (fun c18=>?_) (fun c18=>?_)))))))))))))))))
 ·
  replace c18:=Qbs c18
  replace c18:=QQ2 c18
  refine Qag (Qab (Qaa (Qac (V:=I6 (QaY p b)) rfl (Qaa (Qad (V:=.slice none 0 0) rfl (Qaa (Qad (V:=I6 (QaY p b)) rfl (Qaf (Qaw ?_)))))))))
  refine ⟨_,Qbw (U:=.slice none 0 0) (V:=I6 (QaY p b)) Tryz.results22 rfl rfl,?_⟩
  have hX:Qc9 p a b=QaY p b:=Qrq c12 c18
  rw [Qjc (by rw [hX];exact c18),hX]
  exact ⟨(none,0),rfl,(hs.take 0).more _ (Qbo _ _ _ _),trivial⟩
 replace c18:=Qbd c18
 replace c18:=QQ1 c18
 refine Qag (Qab (Qaa (QaI (cs:=vc a) Qbt hs 1 rfl rfl rfl (Qaa (QaI (cs:=vc b) Qbt hs 2 rfl rfl rfl (Qaa (Qau (vs:=[.agg (vc a).toArray,.agg (vc b).toArray]) (V:=.bool (vle a b)) Qqu rfl rfl ?hc hs fun w19 hs=>?_)))))))
 case hc=>exact (QgK _ a b)
 refine Qaa (Qbx rfl (Qaa (Qad (V:=.bool (!(vle a b))) rfl (Qaf (Qan (t:=!(vle a b)) rfl (fun c20=>?_) (fun c20=>?_))))))
 ·
  replace c20:=Qbs c20
  refine Qag (Qab (Qaa (Qad (V:=.slice none 0 0) rfl (Qaa (Qad (V:=I6 14) rfl (Qaf (Qaw ?_)))))))
  refine ⟨_,Qbw (U:=.slice none 0 0) (V:=I6 14) Tryz.results22 rfl rfl,?_⟩
  have hX:Qc9 p a b=14:=QqX c12 c18 c20
  rw [Qjc (by rw [hX];decide),hX]
  exact ⟨(none,0),rfl,(hs.take 0).more _ (Qbo _ _ _ _),trivial⟩
 replace c20:=Qbd c20
 refine Qap (Qag (Qab (Qaa (QaK (cs:=[.slice none 0 0]) Qur rfl hs fun b21 w22 hs=>(Qaf (Qag (Qag (Qab (Qaa (QaI (cs:=(vc ((Qah p b).known))++[(.slice x14.1.1 (((Qah p b).ents).length) x14.1.2:Value),(.slice x14.2.1 (((Qah p b).ticks).length) x14.2.2:Value) ]) QcD hs 8 rfl rfl rfl (Qaa (Qbf (vs:=[.agg ((vc ((Qah p b).known))++[(.slice x14.1.1 (((Qah p b).ents).length) x14.1.2:Value),(.slice x14.2.1 (((Qah p b).ticks).length) x14.2.2:Value) ]).toArray]) (V:=fun x:Option Addr × Nat=>.slice x.1 (QaB (Qah p b)).length x.2) Qsb rfl rfl (Qh5 _ (Qah p b) x14.1.1 x14.1.2 x14.2.1 x14.2.2 hsob (by omega) (by omega) (hs.rd 6 rfl) (hs.rd 7 rfl)) hs fun x23 w24 hs _=>(Qaa (QaX (n:=(QaB (Qah p b)).length) QaO (hs.rd 10 rfl) (by simp) rfl (Qaa (Qac (V:=I6 0) rfl (Qaf (Qam ?_))))))))))))))))))
 replace hs:=hs.more (row (.slice none 0 0) (List.map dfc []) 83 5) (Qbo _ _ _ _)
 have ho:=(hs.join 9 11 (by decide) rfl rfl).conv 9 (R':=Qeu 60 83 b21 []) rfl fun _ h=>⟨(none,0),h⟩
 replace hs:=ho
 have hcl:=QiW (Qah p b)
 refine QaA (fun J μ J' w'=>∃ (Jo:Env) (k:Nat) (out:List Dif),J'=upd (mix ([13]++sq 41 13) Jo J) 41 (I6 (k:Int))/\(k<=(QaB (Qah p b)).length)/\(out=((QaB (Qah p b)).take k).flatMap (Qjn p a b))/\(out.length<=k*2000)/\μ=(QaB (Qah p b)).length-k/\Own w no w' [blk b1 (((vc p.base.known)++[(.slice a1 p.base.ents.length c1:Value),(.slice a2 p.base.ticks.length c2:Value) ])++[(.slice a3 p.ops.length c3:Value) ]++(vc p.known)) 43,blk b3 (vc a) 24,blk b5 (vc b) 24,row (.slice x8.1.1 (((Qah p a).ents).length) x8.1.2) (((Qah p a).ents).map cec) 106 7,row (.slice x8.2.1 (((Qah p a).ticks).length) x8.2.2) (((Qah p a).ticks).map lsc) 102 2,blk b9 ((vc ((Qah p a).known))++[(.slice x8.1.1 (((Qah p a).ents).length) x8.1.2:Value),(.slice x8.2.1 (((Qah p a).ticks).length) x8.2.2:Value) ]) 38,row (.slice x14.1.1 (((Qah p b).ents).length) x14.1.2) (((Qah p b).ents).map cec) 106 7,row (.slice x14.2.1 (((Qah p b).ticks).length) x14.2.2) (((Qah p b).ticks).map lsc) 102 2,blk b15 ((vc ((Qah p b).known))++[(.slice x14.1.1 (((Qah p b).ents).length) x14.1.2:Value),(.slice x14.2.1 (((Qah p b).ticks).length) x14.2.2:Value) ]) 38,Qeu 60 83 b21 out,row (.slice x23.1 ((QaB (Qah p b)).length) x23.2) ((QaB (Qah p b)).map (ic .u16)) 32 1,emp]) ?_ ?_
 ·exact ⟨_,_,0,[],Qai (Qao (ds:=([13]++sq 41 13)) (Agr.refl _ _)) rfl,(by omega),rfl,(Nat.le_refl _),rfl,hs⟩
 rintro μ J' w25 ⟨Jo,k,out,rfl,hk,hout,hol,rfl,hs⟩
 have hvl1:(Qbb p a (gd (QaB (Qah p b)) k)).lines.length<=800:=Nat.le_trans (QeS _ _ _) (by omega)
 have hvl2:(Qbb p b (gd (QaB (Qah p b)) k)).lines.length<=800:=Nat.le_trans (QeS _ _ _) (by omega)
 refine Qag (Qab (Qaa (QaS rfl rfl (Qaf (Qag (Qan (t:=decide ((k:Int)<(((QaB (Qah p b)).length:Nat):Int))) rfl (fun c26=>?_) (fun c26=>?_)))))))
 ·
  replace c26:=QQ1 c26
  refine Qap (Qag (Qam (Qag (Qab (Qaa (Qax QaO Qar.1 (hs.rd 10 rfl) rfl rfl (by omega) (by rw [QQ6];omega) (Qaa (QaU (j:=0) (V:=I7 (gd (QaB (Qah p b)) k)) k Qar (hs.rd 10 rfl) (QaW (by omega)) rfl rfl (by omega) (Qaa (Qad (V:=I7 (gd (QaB (Qah p b)) k)) rfl (Qaf ?_)))))))))))
  replace hs:=hs.more emp trivial
  replace hs:=hs.more emp trivial
  refine QaJ HM [some 45,some 46,some 47,some 48,some 49,some 50,some 51,some 52] [[],[],[47],[],[],[50]] [0,0,3,0,0,31,0,127] [pv (.agg ((vc ((Qah p a).known))++[(.slice x8.1.1 (((Qah p a).ents).length) x8.1.2:Value),(.slice x8.2.1 (((Qah p a).ticks).length) x8.2.2:Value) ]).toArray),pv (I7 (gd (QaB (Qah p b)) k)),(true,fun J=>.agg #[I7 ((Qbb p a (gd (QaB (Qah p b)) k)).cart),.slice (aOf (Qa2 (J 47) 1)) (((Qbb p a (gd (QaB (Qah p b)) k)).lines).length) (cOf (Qa2 (J 47) 1)),.bool ((Qbb p a (gd (QaB (Qah p b)) k)).out),.int .u32 ((Qbb p a (gd (QaB (Qah p b)) k)).tick)]),pv (.agg ((vc ((Qah p b).known))++[(.slice x14.1.1 (((Qah p b).ents).length) x14.1.2:Value),(.slice x14.2.1 (((Qah p b).ticks).length) x14.2.2:Value) ]).toArray),pv (I7 (gd (QaB (Qah p b)) k)),(true,fun J=>.agg #[I7 ((Qbb p b (gd (QaB (Qah p b)) k)).cart),.slice (aOf (Qa2 (J 50) 1)) (((Qbb p b (gd (QaB (Qah p b)) k)).lines).length) (cOf (Qa2 (J 50) 1)),.bool ((Qbb p b (gd (QaB (Qah p b)) k)).out),.int .u32 ((Qbb p b (gd (QaB (Qah p b)) k)).tick)]),pv (.func (.func 65) #[] #[Pq b21 0]),pv (.tuple #[])] (fun D J=>[blk b1 (((vc p.base.known)++[(.slice a1 p.base.ents.length c1:Value),(.slice a2 p.base.ticks.length c2:Value) ])++[(.slice a3 p.ops.length c3:Value) ]++(vc p.known)) 43,blk b3 (vc a) 24,blk b5 (vc b) 24,row (.slice x8.1.1 (((Qah p a).ents).length) x8.1.2) (((Qah p a).ents).map cec) 106 7,row (.slice x8.2.1 (((Qah p a).ticks).length) x8.2.2) (((Qah p a).ticks).map lsc) 102 2,blk b9 ((vc ((Qah p a).known))++[(.slice x8.1.1 (((Qah p a).ents).length) x8.1.2:Value),(.slice x8.2.1 (((Qah p a).ticks).length) x8.2.2:Value) ]) 38,row (.slice x14.1.1 (((Qah p b).ents).length) x14.1.2) (((Qah p b).ents).map cec) 106 7,row (.slice x14.2.1 (((Qah p b).ticks).length) x14.2.2) (((Qah p b).ticks).map lsc) 102 2,blk b15 ((vc ((Qah p b).known))++[(.slice x14.1.1 (((Qah p b).ents).length) x14.1.2:Value),(.slice x14.2.1 (((Qah p b).ticks).length) x14.2.2:Value) ]) 38,cond (D 7) (Qeu 60 83 b21 (out++QeG (Qbb p a (gd (QaB (Qah p b)) k)) (Qbb p b (gd (QaB (Qah p b)) k)))) (Qeu 60 83 b21 out),row (.slice x23.1 ((QaB (Qah p b)).length) x23.2) ((QaB (Qah p b)).map (ic .u16)) 32 1,emp,cond (D 2) (row (.slice (aOf (Qa2 (J 47) 1)) (((Qbb p a (gd (QaB (Qah p b)) k)).lines).length) (cOf (Qa2 (J 47) 1))) (((Qbb p a (gd (QaB (Qah p b)) k)).lines).map lc) 127 2) (emp),cond (D 5) (row (.slice (aOf (Qa2 (J 50) 1)) (((Qbb p b (gd (QaB (Qah p b)) k)).lines).length) (cOf (Qa2 (J 50) 1))) (((Qbb p b (gd (QaB (Qah p b)) k)).lines).map lc) 127 2) (emp)]) [] (by kernel_rfl) hs ⟨?_,?_,?_,?_,?_,?_,?_,?_,trivial⟩ ?_
  ·exact oa [] fun D J w hs=>QaI (cs:=(vc ((Qah p a).known))++[(.slice x8.1.1 (((Qah p a).ents).length) x8.1.2:Value),(.slice x8.2.1 (((Qah p a).ticks).length) x8.2.2:Value) ]) QcD hs 5 rfl rfl rfl (Zz hs)
  ·exact oa [] fun D J w hs=>Qac (V:=.int .u16 (gd (QaB (Qah p b)) k)) rfl (Zz hs)
  ·exact oa [0,1] fun D J w hs=>Qbf (α:=Option Addr × Nat) (vs:=[.agg ((vc ((Qah p a).known))++[(.slice x8.1.1 (((Qah p a).ents).length) x8.1.2:Value),(.slice x8.2.1 (((Qah p a).ticks).length) x8.2.2:Value) ]).toArray,.int .u16 (gd (QaB (Qah p b)) k)]) (V:=fun x=>.agg #[.int .u16 ((Qbb p a (gd (QaB (Qah p b)) k)).cart),.slice x.1 (((Qbb p a (gd (QaB (Qah p b)) k)).lines).length) x.2,.bool ((Qbb p a (gd (QaB (Qah p b)) k)).out),.int .u32 ((Qbb p a (gd (QaB (Qah p b)) k)).tick)]) (Lo:=fun x=>[row (.slice x.1 ((Qbb p a (gd (QaB (Qah p b)) k)).lines).length x.2) (((Qbb p a (gd (QaB (Qah p b)) k)).lines).map lc) 127 2]) (F:=fun _ _=>True) QoG rfl rfl (QeL _ (Qah p a) x8.1.1 x8.1.2 x8.2.1 x8.2.2 (gd (QaB (Qah p b)) k) (Qbb p a (gd (QaB (Qah p b)) k):Vw) (rfl) hsoa (by omega) (by omega) (hs.rd 3 rfl) (hs.rd 4 rfl)) hs fun _ _ hs _=>⟨rfl,hs.put 12 (QQ8 rfl)⟩
  ·exact oa [] fun D J w hs=>QaI (cs:=(vc ((Qah p b).known))++[(.slice x14.1.1 (((Qah p b).ents).length) x14.1.2:Value),(.slice x14.2.1 (((Qah p b).ticks).length) x14.2.2:Value) ]) QcD hs 8 rfl rfl rfl (Zz hs)
  ·exact oa [] fun D J w hs=>Qac (V:=.int .u16 (gd (QaB (Qah p b)) k)) rfl (Zz hs)
  ·exact oa [3,4] fun D J w hs=>Qbf (α:=Option Addr × Nat) (vs:=[.agg ((vc ((Qah p b).known))++[(.slice x14.1.1 (((Qah p b).ents).length) x14.1.2:Value),(.slice x14.2.1 (((Qah p b).ticks).length) x14.2.2:Value) ]).toArray,.int .u16 (gd (QaB (Qah p b)) k)]) (V:=fun x=>.agg #[.int .u16 ((Qbb p b (gd (QaB (Qah p b)) k)).cart),.slice x.1 (((Qbb p b (gd (QaB (Qah p b)) k)).lines).length) x.2,.bool ((Qbb p b (gd (QaB (Qah p b)) k)).out),.int .u32 ((Qbb p b (gd (QaB (Qah p b)) k)).tick)]) (Lo:=fun x=>[row (.slice x.1 ((Qbb p b (gd (QaB (Qah p b)) k)).lines).length x.2) (((Qbb p b (gd (QaB (Qah p b)) k)).lines).map lc) 127 2]) (F:=fun _ _=>True) QoG rfl rfl (QeL _ (Qah p b) x14.1.1 x14.1.2 x14.2.1 x14.2.2 (gd (QaB (Qah p b)) k) (Qbb p b (gd (QaB (Qah p b)) k):Vw) (rfl) hsob (by omega) (by omega) (hs.rd 6 rfl) (hs.rd 7 rfl)) hs fun _ _ hs _=>⟨rfl,hs.put 13 (QQ8 rfl)⟩
  ·exact oa [] fun D J w hs=>QdA (cs:=[.pointer (some ⟨b21,0,none⟩)]) rfl rfl (Zz hs)
  ·exact oa [2,5,6] fun D J w hs=>Qjg (α:=Unit) (vs:=[.agg #[.int .u16 ((Qbb p a (gd (QaB (Qah p b)) k)).cart),.slice (aOf (Qa2 (J 47) 1)) (((Qbb p a (gd (QaB (Qah p b)) k)).lines).length) (cOf (Qa2 (J 47) 1)),.bool ((Qbb p a (gd (QaB (Qah p b)) k)).out),.int .u32 ((Qbb p a (gd (QaB (Qah p b)) k)).tick)],.agg #[.int .u16 ((Qbb p b (gd (QaB (Qah p b)) k)).cart),.slice (aOf (Qa2 (J 50) 1)) (((Qbb p b (gd (QaB (Qah p b)) k)).lines).length) (cOf (Qa2 (J 50) 1)),.bool ((Qbb p b (gd (QaB (Qah p b)) k)).out),.int .u32 ((Qbb p b (gd (QaB (Qah p b)) k)).tick)],.func (.func 65) #[] #[.pointer (some ⟨b21,0,none⟩)]]) (V:=fun _=>.tuple #[]) (R:=Qeu 60 83 b21 out) (R':=fun _=>Qeu 60 83 b21 (out++QeG (Qbb p a (gd (QaB (Qah p b)) k)) (Qbb p b (gd (QaB (Qah p b)) k)))) (Lo:=fun _=>[]) (F:=fun _ _=>True) QuJ rfl rfl hs 9 rfl (fun S hS hlS hK=>Qma _ S b21 out ((Qbb p a (gd (QaB (Qah p b)) k)).cart) ((Qbb p a (gd (QaB (Qah p b)) k)).lines) ((Qbb p a (gd (QaB (Qah p b)) k)).out) ((Qbb p a (gd (QaB (Qah p b)) k)).tick) (aOf (Qa2 (J 47) 1)) (cOf (Qa2 (J 47) 1)) ((Qbb p b (gd (QaB (Qah p b)) k)).cart) ((Qbb p b (gd (QaB (Qah p b)) k)).lines) ((Qbb p b (gd (QaB (Qah p b)) k)).out) ((Qbb p b (gd (QaB (Qah p b)) k)).tick) (aOf (Qa2 (J 50) 1)) (cOf (Qa2 (J 50) 1)) (QjT _ _ _) (QjT _ _ _) (Nat.le_trans (QeS _ _ _) (by omega)) (Nat.le_trans (QeS _ _ _) (by omega)) (fun w1 L1 h=>(hK 12 (by decide) _ rfl).rd h) (fun w1 L1 h=>(hK 13 (by decide) _ rfl).rd h) hS hlS (by omega)) fun _ _ hs _=>⟨rfl,hs⟩
  rintro J1 w30 J2 hJ hs
  replace hJ:J2=mix (sq 45 8) J1 _:=hJ
  replace hs:Own w no w30 [blk b1 (((vc p.base.known)++[(.slice a1 p.base.ents.length c1:Value),(.slice a2 p.base.ticks.length c2:Value) ])++[(.slice a3 p.ops.length c3:Value) ]++(vc p.known)) 43,blk b3 (vc a) 24,blk b5 (vc b) 24,row (.slice x8.1.1 (((Qah p a).ents).length) x8.1.2) (((Qah p a).ents).map cec) 106 7,row (.slice x8.2.1 (((Qah p a).ticks).length) x8.2.2) (((Qah p a).ticks).map lsc) 102 2,blk b9 ((vc ((Qah p a).known))++[(.slice x8.1.1 (((Qah p a).ents).length) x8.1.2:Value),(.slice x8.2.1 (((Qah p a).ticks).length) x8.2.2:Value) ]) 38,row (.slice x14.1.1 (((Qah p b).ents).length) x14.1.2) (((Qah p b).ents).map cec) 106 7,row (.slice x14.2.1 (((Qah p b).ticks).length) x14.2.2) (((Qah p b).ticks).map lsc) 102 2,blk b15 ((vc ((Qah p b).known))++[(.slice x14.1.1 (((Qah p b).ents).length) x14.1.2:Value),(.slice x14.2.1 (((Qah p b).ticks).length) x14.2.2:Value) ]) 38,Qeu 60 83 b21 (out++QeG (Qbb p a (gd (QaB (Qah p b)) k)) (Qbb p b (gd (QaB (Qah p b)) k))),row (.slice x23.1 ((QaB (Qah p b)).length) x23.2) ((QaB (Qah p b)).map (ic .u16)) 32 1,emp,row (.slice (aOf (Qa2 (J1 47) 1)) (((Qbb p a (gd (QaB (Qah p b)) k)).lines).length) (cOf (Qa2 (J1 47) 1))) (((Qbb p a (gd (QaB (Qah p b)) k)).lines).map lc) 127 2,row (.slice (aOf (Qa2 (J1 50) 1)) (((Qbb p b (gd (QaB (Qah p b)) k)).lines).length) (cOf (Qa2 (J1 50) 1))) (((Qbb p b (gd (QaB (Qah p b)) k)).lines).map lc) 127 2]:=hs
  generalize (aOf (Qa2 (J1 47) 1))=na31 at hs
  generalize (cOf (Qa2 (J1 47) 1))=nc32 at hs
  generalize (aOf (Qa2 (J1 50) 1))=na33 at hs
  generalize (cOf (Qa2 (J1 50) 1))=nc34 at hs
  subst hJ
  refine Qab (Qaa (QaD (a:=(k:Int)) (b:=1) (c:=((k+1:Nat):Int)) rfl rfl (Qak (by omega) (by omega)) (Qaa (Qac (V:=I6 ((k+1:Nat):Int)) rfl (Qaf ?_)))))
  refine ⟨_,?_,_,k+1,(out++QeG (Qbb p a (gd (QaB (Qah p b)) k)) (Qbb p b (gd (QaB (Qah p b)) k))),Qai (Qao (ds:=([13]++sq 41 13)) (by repeat (first|exact Agr.refl _ _|refine Agr.upd ?_ rfl|refine Agr.mix ?_ rfl))) rfl,(by omega),(QlN hout (by omega)),(by have h9:=Qpu (Qbb p a (gd (QaB (Qah p b)) k)) (Qbb p b (gd (QaB (Qah p b)) k));rw [QQ7];omega),rfl,hs.take 12⟩
  omega
 replace c26:=QQ2 c26
 refine QaH (Qag ?_)
 obtain ⟨⟨ao9,co9⟩,hs⟩:=hs.unpack 9 rfl
 replace hs:=hs.split 9 rfl
 refine Qab (Qaa (QaF (V:=.slice ao9 out.length co9) QqG hs 9 rfl rfl rfl (Qaa (Qad (V:=.slice ao9 out.length co9) rfl (Qaa (Qad (V:=I6 0) rfl (Qaf (Qaw ?_))))))))
 refine ⟨_,Qbw (U:=.slice ao9 out.length co9) (V:=I6 0) Tryz.results22 rfl rfl,?_⟩
 have hX:Qc9 p a b=0:=QmW c12 c18 c20
 rw [Qny hX hout (by omega),hX]
 exact ⟨(ao9,co9),rfl,hs.only 12 rfl,trivial⟩
end Tt
end Go.Proofs
namespace Go.Proofs
open Go Go.Vx Go.RowKit
namespace Tt
theorem Qoy (w:World) (a:Option Addr) (c:Nat) (l:List Int) (g:Nat) (caps:List Value) (hg:En Tryz.prog g) (p:Int->Bool) (hp:∀ (w1:World) (L1:List Res),Own w no w1 L1->∀ x∈l,Calls Tryz.prog g ([(.int .u16 x:Value)]++caps).toArray w1 (fun e w'=>e = .returned (.bool (p x))/\Own w1 no w' [])) (hr:Rd w (.slice a l.length c) 1 (l.map (ic .u16))):Calls Tryz.prog 110 #[.slice a l.length c,.func (.func g) #[] caps.toArray] w (fun e w'=>e = .returned (.int .i64 (QeC p l))/\Own w no w' []):=by
 refine Qaj (n:=19) Tryz.func110 rfl Tryz.ntmps110 rfl ?_
 have hs:=Own.start w
 have hn:=hr.sml
 refine Qag (Qab (Qaa (Qad (V:=I6 0) rfl (Qaf (Qag (Qag (Qab (Qaa (Qac (V:=.slice a l.length c) rfl (Qaa (QaX (n:=l.length) QaO (Rd.own' hr hs) (by simp) rfl (Qaa (Qac (V:=I6 0) rfl (Qaf (Qam (QaA (fun J μ J' w'=>∃ (Jo:Env) (k:Nat),J'=upd (mix ([4,5]++sq 8 11) Jo J) 8 (I6 (k:Int))/\(k<=l.length)/\(∀ j:Nat,j<k->p (gd l j)=false)/\μ=l.length-k/\Own w no w' []) ?_ ?_))))))))))))))))
 ·exact ⟨_,_,0,Qai (Qao (ds:=([4,5]++sq 8 11)) (Agr.refl _ _)) rfl,(by omega),(fun j hj=>absurd hj (Nat.not_lt_zero j)),rfl,hs⟩
 rintro μ J' w1 ⟨Jo,k,rfl,hk,hno,rfl,hs⟩
 refine Qag (Qab (Qaa (QaS rfl rfl (Qaf (Qag (Qan (t:=decide ((k:Int)<((l.length:Nat):Int))) rfl (fun c2=>?_) (fun c2=>?_)))))))
 ·
  replace c2:=QQ1 c2
  refine Qap (Qag (Qam (Qag (Qab (Qaa (Qac (V:=I6 (k:Int)) rfl (Qaa (Qad (V:=I6 (k:Int)) rfl (Qaf (Qag (Qab (Qaa (Qac (V:=.func (.func g) #[] caps.toArray) rfl (Qaa (Qac (V:=.slice a l.length c) rfl (Qaa (Qac (V:=I6 (k:Int)) rfl (Qaa (Qax QaO Qar.1 (Rd.own' hr hs) rfl rfl (by omega) (by rw [QQ6];omega) (Qaa (QaU (j:=0) (V:=I7 (gd l k)) k Qar (Rd.own' hr hs) (QaW (by omega)) rfl rfl (by omega) (Qaa (Qf1 (vs:=[I7 (gd l k)]) (cs:=caps) (V:=.bool (p (gd l k))) hg rfl rfl (hp _ _ hs (gd l k) (QbP (by omega))) hs fun w3 hs=>(Qaf (Qan (t:=p (gd l k)) rfl (fun c4=>?_) (fun c4=>?_))))))))))))))))))))))))))
  ·
   refine Qag (Qab (Qaa (Qac (V:=I6 (k:Int)) rfl (Qaa (Qad (V:=I6 (k:Int)) rfl (Qaf (Qaw ?_)))))))
   refine ⟨_,Qaq (V:=I6 (k:Int)) Tryz.results110 rfl,(Zr hs ?_)⟩
   exact congrArg (Value.int .i64) (Qi7 (by omega) hno c4).symm
  refine Qap (Qab (Qaa (QaD (a:=(k:Int)) (b:=1) (c:=(k:Int)+1) rfl rfl (QbK (by omega) (by omega)) (Qaa (Qac (V:=I6 ((k:Int)+1)) rfl (Qaf ?_))))))
  refine ⟨_,?_,_,k+1,Qai (Qao (ds:=([4,5]++sq 8 11)) (by repeat (first|exact Agr.refl _ _|refine Agr.upd ?_ rfl|refine Agr.mix ?_ rfl))) rfl,(by omega),(Qca hno c4),rfl,hs.take 0⟩
  omega
 replace c2:=QQ2 c2
 refine QaH (Qag (Qab (Qaa (Qad (V:=I6 (-1)) rfl (Qaf (Qaw ?_))))))
 refine ⟨_,Qaq (V:=I6 (-1)) Tryz.results110 rfl,(Zr hs ?_)⟩
 exact congrArg (Value.int .i64) (Qlo fun j hj=>hno j (by omega)).symm
end Tt
end Go.Proofs
namespace Go.Proofs
open Go Go.Vx Go.RowKit
namespace Tt
theorem QnV (w:World) (S:Nat->Prop) (a:Option Addr) (c:Nat) (l:List Int) (g:Nat) (caps:List Value) (hg:En Tryz.prog g) (p:Int->Bool) (hp:∀ (w1:World) (L1:List Res),Own w S w1 L1->∀ x∈l,Calls Tryz.prog g ([(.int .u16 x:Value)]++caps).toArray w1 (fun e w'=>e = .returned (.bool (p x))/\Own w1 no w' [])) (hR:(row (.slice a l.length c) (l.map (ic .u16)) 32 1).holds w S) (hlt:∀ b,S b->b<w.heap.size):Calls Tryz.prog 67 #[.slice a l.length c,.func (.func g) #[] caps.toArray] w (fun e w'=>∃ x:Unit,e = .returned (.slice a (l.filter fun x=>!p x).length c)/\Own w S w' [row (.slice a (l.filter fun x=>!p x).length c) ((l.filter fun x=>!p x).map (ic .u16)) 32 1]/\True):=by
 refine Qaj (n:=42) Tryz.func67 rfl Tryz.ntmps67 rfl ?_
 have hs:=Own.lent hR hlt
 have hn:=(hs.rd 0 rfl).sml
 have hlc:=(hs.rd 0 rfl).roomM
 refine Qag (Qab (Qaa (Qad (V:=.slice none 0 0) rfl (Qaf (Qag (Qab (Qaa (Qac (V:=.slice a l.length c) rfl (Qaa (Qac (V:=.func (.func g) #[] caps.toArray) rfl (Qaa (Qau (vs:=[.slice a l.length c,.func (.func g) #[] caps.toArray]) (V:=I6 (QeC p l)) QsX rfl rfl ?hc hs fun w1 hs=>?_))))))))))))
 case hc=>exact (Qoy _ a c l g caps hg p (fun w1 L1 h=>hp w1 _ (hs.call h)) (hs.rd 0 rfl))
 refine Qaa (Qad (V:=I6 (QeC p l)) rfl (Qaf (Qag (Qag ?_))))
 rcases QjQ (p:=p) (l:=l) with hk2|hk2
 ·
  obtain ⟨hf1,hfl⟩:=hk2
  refine Qab (Qaa (Qbk (V:=I6 (QeC p l)) (V':=I6 (-1)) (Qac (V:=I6 (QeC p l)) rfl ⟨rfl,rfl⟩) (congrArg (Value.int .i64) hf1) (Qaa (Qbk (V:=.bool (decide ((-1:Int) = -1))) (V':=.bool true) (QaT rfl rfl ⟨rfl,rfl⟩) (congrArg Value.bool (QQ3 rfl)) (Qaf (Qdm rfl ?_))))))
  refine Qag (Qab (Qaa (Qac (V:=.slice a l.length c) rfl (Qaa (Qad (V:=.slice a l.length c) rfl (Qaf (Qaw ?_)))))))
  refine ⟨_,Qaq (V:=.slice a l.length c) Tryz.results67 rfl,?_⟩
  rw [hfl]
  exact ⟨(),rfl,hs.take 1,trivial⟩
 obtain ⟨k0,hf1,hk0l,hpk,hft⟩:=hk2
 refine Qab (Qaa (Qbk (V:=I6 (QeC p l)) (V':=I6 (k0:Int)) (Qac (V:=I6 (QeC p l)) rfl ⟨rfl,rfl⟩) (congrArg (Value.int .i64) hf1) (Qaa (Qbk (V:=.bool (decide ((k0:Int) = -1))) (V':=.bool false) (QaT rfl rfl ⟨rfl,rfl⟩) (congrArg Value.bool (QQ4 (by omega))) (Qaf (Qcw rfl ?_))))))
 refine Qap (Qag (Qag (Qab (Qaa (Qbk (V:=I6 (QeC p l)) (V':=I6 (k0:Int)) (Qac (V:=I6 (QeC p l)) rfl ⟨rfl,rfl⟩) (congrArg (Value.int .i64) hf1) (Qaa (QaD (a:=(k0:Int)) (b:=1) (c:=((k0+1:Nat):Int)) rfl rfl (Qak (by omega) (by omega)) (Qaa (Qad (V:=I6 ((k0+1:Nat):Int)) rfl (Qaf (Qam (QaA (fun J μ J' w'=>∃ (Jo:Env) (i:Nat) (j:Nat) (m:List Int),J'=upd (upd (mix ([5,6,7]++sq 16 20) Jo J) 5 (I6 (i:Int))) 6 (I6 (j:Int))/\(i<j)/\(j<=l.length)/\(Moved p l m i j)/\μ=l.length-j/\Own w S w' [row (.slice a l.length c) (m.map (ic .u16)) 32 1]) ?_ ?_))))))))))))
 ·exact ⟨_,_,k0,k0+1,l,Qai (Qai (Qao (ds:=([5,6,7]++sq 16 20)) (Agr.refl _ _)) (congrArg (Value.int .i64) hf1)) rfl,(by omega),(by omega),(Qgo hk0l hpk hft),rfl,hs⟩
 rintro μ J' w2 ⟨Jo,i,j,m,rfl,hij,hj,hmv,rfl,hs⟩
 have hml:=hmv.1
 refine Qag (Qag (Qab (Qaa (Qac (V:=I6 (j:Int)) rfl (Qaa (Qac (V:=.slice a l.length c) rfl (Qaa (QaX (n:=l.length) QaO (hs.rd 0 rfl) (by simp [hmv.1]) rfl (Qaa (QaS rfl rfl (Qaf (Qan (t:=decide ((j:Int)<((l.length:Nat):Int))) rfl (fun c3=>?_) (fun c3=>?_)))))))))))))
 ·
  replace c3:=QQ1 c3
  refine Qap (Qag (Qam (Qag (Qab (Qaa (Qac (V:=.slice a l.length c) rfl (Qaa (Qac (V:=I6 (j:Int)) rfl (Qaa (Qax QaO Qar.1 (hs.rd 0 rfl) rfl rfl (by omega) (by rw [QQ6];omega) (Qaa (QaU (j:=0) (V:=I7 (gd m j)) j Qar (hs.rd 0 rfl) (QaW (by omega)) rfl rfl (by omega) (Qaa (Qad (V:=I7 (gd m j)) rfl (Qaf (Qag (Qab (Qaa (Qac (V:=.func (.func g) #[] caps.toArray) rfl (Qaa (Qac (V:=I7 (gd m j)) rfl (Qaa (Qf1 (vs:=[I7 (gd m j)]) (cs:=caps) (V:=.bool (p (gd m j))) hg rfl rfl (hp _ _ hs (gd m j) (by rw [hmv.2.2 _ (Nat.le_refl _)];exact QbP (by omega))) hs fun w4 hs=>(Qaa (Qbx rfl (Qaf (Qan (t:=!(p (gd m j))) rfl (fun c5=>?_) (fun c5=>?_))))))))))))))))))))))))))))
  ·
   replace c5:=Qbs c5
   refine Qag (Qab (Qaa (Qac (V:=.slice a l.length c) rfl (Qaa (Qac (V:=I6 (i:Int)) rfl (Qaa (Qac (V:=I7 (gd m j)) rfl (Qaa (Qax QaO Qar.1 (hs.rd 0 rfl) rfl rfl (by omega) (by rw [QQ6];omega) (Qaa (QvC (z:=gd m j) (vs:=[I7 (gd m j)]) i 0 Qar.1 hs 0 rfl rfl (by omega) (by first|omega|(simp only [List.length_set];omega)) rfl rfl rfl rfl (QQ8 rfl) ((QfA .u16) _) (Qat rfl Qa9) fun w6 hs=>(Qaf (Qab (Qaa (Qac (V:=I6 (i:Int)) rfl (Qaa (QaD (a:=(i:Int)) (b:=1) (c:=((i+1:Nat):Int)) rfl rfl (Qak (by omega) (by omega)) (Qaa (Qad (V:=I6 ((i+1:Nat):Int)) rfl (Qaf (Qab (Qaa (Qac (V:=I6 (j:Int)) rfl (Qaa (QaD (a:=(j:Int)) (b:=1) (c:=((j+1:Nat):Int)) rfl rfl (Qak (by omega) (by omega)) (Qaa (Qad (V:=I6 ((j+1:Nat):Int)) rfl (Qaf ?_))))))))))))))))))))))))))))
   refine ⟨_,?_,_,i+1,j+1,m.set i (gd m j),Qai (Qai (Qao (ds:=([5,6,7]++sq 16 20)) (by repeat (first|exact Agr.refl _ _|refine Agr.upd ?_ rfl|refine Agr.mix ?_ rfl))) rfl) rfl,(by omega),(by omega),(Qhh hmv (by omega) (by omega) c5),rfl,hs.take 1⟩
   omega
  replace c5:=Qbd c5
  refine Qap (Qab (Qaa (Qac (V:=I6 (j:Int)) rfl (Qaa (QaD (a:=(j:Int)) (b:=1) (c:=((j+1:Nat):Int)) rfl rfl (Qak (by omega) (by omega)) (Qaa (Qad (V:=I6 ((j+1:Nat):Int)) rfl (Qaf ?_))))))))
  refine ⟨_,?_,_,i,j+1,m,Qai (Qai (Qao (ds:=([5,6,7]++sq 16 20)) (by repeat (first|exact Agr.refl _ _|refine Agr.upd ?_ rfl|refine Agr.mix ?_ rfl))) rfl) rfl,(by omega),(by omega),(Qg1 hmv (by omega) c5),rfl,hs.take 1⟩
  omega
 replace c3:=QQ2 c3
 refine QaH (Qag (Qab (Qaa (Qac (V:=.slice a l.length c) rfl (Qaa (Qac (V:=I6 (i:Int)) rfl (Qaa (QpM (l:=i) (h:=l.length) (m:=c) (n':=(m.drop i).length) Qpy Qar.1 (hs.rd 0 rfl) rfl (.inr ⟨_,_,rfl,rfl⟩) (.inl ⟨rfl,rfl⟩) (.inl ⟨rfl,rfl⟩) (by omega) (by omega) (Nat.le_trans (show l.length<=m.length by omega) (Rd.roomM (hs.rd 0 rfl))) (Nat.le_refl _) (by simp only [List.length_take,List.length_drop]<;>omega) ?_))))))))
 refine Qaa (Qj6 QlK hs 0 rfl rfl (by rw [QQ6]<;>omega) (by simp only [QQ6,List.length_drop]<;>omega) (by intro v hv;have e:=Qms hv Qu4;subst e;exact (by intro u hu;simp [Value.cells] at hu;subst hu;rfl)) fun w7 hs=>(Qaf (Qag (Qab (Qaa (Qac (V:=.slice a l.length c) rfl (Qaa (Qac (V:=I6 (i:Int)) rfl (Qaa (QtQ (l:=0) (h:=i) (n':=i) Qpy Qar.1 (by omega) rfl (.inl ⟨rfl,rfl⟩) (.inr ⟨_,_,rfl,rfl⟩) (by omega) (by omega) (by omega) (Qaa (Qad (V:=.slice (sla a 0 c 1) i (c-0)) rfl (Qaf (Qaw ?_))))))))))))))
 refine ⟨_,Qaq (V:=.slice (sla a 0 c 1) i (c-0)) Tryz.results67 rfl,?_⟩
 have he:=Qik hmv (by omega)
 have hil:i=(l.filter fun x=>!p x).length:=by rw [← he,List.length_take,hmv.1];omega
 replace hs:=hs.take 1
 simp only [List.set_cons_zero,List.take_succ_cons,List.take_zero,← List.map_take,he] at hs
 rw [← hil]
 refine ⟨(),?_,hs,trivial⟩
 rw [QjH,Nat.sub_zero]
end Tt
end Go.Proofs
namespace Go.Proofs
open Go Go.Vx Go.RowKit
namespace Tt
theorem QsC (w:World) (n:Int) (bs bn bi:Nat) (s:Sta) (a1:Option Addr) (c1:Nat) (a2:Option Addr) (c2:Nat) (now idle:Int) (hnw:0<=idle/\idle<=now/\now<4294967296) (hok:QdI s) (hle:s.ents.length<=1000) (hlt:s.ticks.length<=1000) (hcs:Qch w bs ((vc s.known)++[(.slice a1 s.ents.length c1:Value),(.slice a2 s.ticks.length c2:Value) ])) (hcn:Qch w bn [(.int .u32 now:Value)]) (hci:Qch w bi [(.int .u32 idle:Value)]) (hr1:Rd w (.slice a1 s.ents.length c1) 7 (s.ents.map cec)) (hr2:Rd w (.slice a2 s.ticks.length c2) 2 (s.ticks.map lsc)):Calls Tryz.prog 68 #[.int .u16 n,.pointer (some ⟨bs,0,none⟩),.pointer (some ⟨bn,0,none⟩),.pointer (some ⟨bi,0,none⟩)] w (fun e w'=>e = .returned (.bool (QgY (QaE s n (Qas s)) now idle))/\Own w no w' []):=by
 refine Qaj (n:=26) Tryz.func68 rfl Tryz.ntmps68 rfl ?_
 have hs:=Own.start w
 have ⟨hnw1,hnw2,hnw3⟩:=hnw
 refine Qag (Qab (Qaa (Qad (V:=.bool false) rfl (Qaf (Qag (Qab (Qaa (Qp0 (vs:=(vc s.known)++[(.slice a1 s.ents.length c1:Value),(.slice a2 s.ticks.length c2:Value) ]) QcD (hcs.own' hs) rfl rfl rfl (Qaa (Qac (V:=I7 n) rfl (Qaa (Qbf (α:=Option Addr × Nat) (vs:=[.agg ((vc s.known)++[(.slice a1 s.ents.length c1:Value),(.slice a2 s.ticks.length c2:Value) ]).toArray,I7 n]) (V:=fun x=>.agg #[I7 ((QaE s n (Qas s)).cart),.slice x.1 (((QaE s n (Qas s)).lines).length) x.2,.bool ((QaE s n (Qas s)).out),.int .u32 ((QaE s n (Qas s)).tick)]) (Lo:=fun x=>[row (.slice x.1 ((QaE s n (Qas s)).lines).length x.2) (((QaE s n (Qas s)).lines).map lc) 127 2]) (F:=fun _ _=>True) QoG rfl rfl ?hc hs fun x2 w1 hs _=>?_))))))))))))
 case hc=>exact (QeL _ s a1 c1 a2 c2 n (QaE s n (Qas s):Vw) (rfl) hok hle hlt (Rd.own' hr1 hs) (Rd.own' hr2 hs))
 refine Qaa (QaK (cs:=[I7 0,.slice none 0 0,.bool false,.int .u32 0]) Qgl rfl hs fun b3 w4 hs=>(Qaa (Qcq (V:=.agg #[I7 ((QaE s n (Qas s)).cart),.slice x2.1 (((QaE s n (Qas s)).lines).length) x2.2,.bool ((QaE s n (Qas s)).out),.int .u32 ((QaE s n (Qas s)).tick)]) (vs:=[I7 ((QaE s n (Qas s)).cart),.slice x2.1 (((QaE s n (Qas s)).lines).length) x2.2,.bool ((QaE s n (Qas s)).out),.int .u32 ((QaE s n (Qas s)).tick)]) (cs':=[I7 ((QaE s n (Qas s)).cart),.slice x2.1 (((QaE s n (Qas s)).lines).length) x2.2,.bool ((QaE s n (Qas s)).out),.int .u32 ((QaE s n (Qas s)).tick)]) Qcr.1 hs 1 rfl rfl rfl rfl rfl (QQ8 rfl) (Qat rfl (Qat rfl (Qat rfl (Qat rfl Qa9)))) (Qay rfl) fun w5 hs=>(Qaf (Qag (Qbm [some 10,some 11,some 12,some 13,some 14,some 15,some 16,some 17,some 18,some 19,some 20,some 21,some 22,some 23,some 24,some 25,some 5] [] [0,1,3,7,15,31,63,127,255,511,1023,511,511,6655,16383,32767,65535] [pv (Pq b3 (0+1)),pv (.slice x2.1 (((QaE s n (Qas s)).lines).length) x2.2),pv (I6 ((((QaE s n (Qas s)).lines).length:Nat):Int)),pv (.bool (decide (((((QaE s n (Qas s)).lines).length:Nat):Int)=0))),pv (.bool (decide (((((QaE s n (Qas s)).lines).length:Nat):Int)=0))),pg ((decide (((((QaE s n (Qas s)).lines).length:Nat):Int)=0)) == false) (Pq b3 (0+2)),pg ((decide (((((QaE s n (Qas s)).lines).length:Nat):Int)=0)) == false) (.bool ((QaE s n (Qas s)).out)),pv (.bool ((decide (((((QaE s n (Qas s)).lines).length:Nat):Int)=0))||((QaE s n (Qas s)).out))),pv (.bool ((decide (((((QaE s n (Qas s)).lines).length:Nat):Int)=0))||((QaE s n (Qas s)).out))),pg (((decide (((((QaE s n (Qas s)).lines).length:Nat):Int)=0))||((QaE s n (Qas s)).out)) == false) (Pq b3 (0+3)),pg (((decide (((((QaE s n (Qas s)).lines).length:Nat):Int)=0))||((QaE s n (Qas s)).out)) == false) (.int .u32 ((QaE s n (Qas s)).tick)),pg (((decide (((((QaE s n (Qas s)).lines).length:Nat):Int)=0))||((QaE s n (Qas s)).out)) == false) (.int .u32 now),pg (((decide (((((QaE s n (Qas s)).lines).length:Nat):Int)=0))||((QaE s n (Qas s)).out)) == false) (.int .u32 idle),pg (((decide (((((QaE s n (Qas s)).lines).length:Nat):Int)=0))||((QaE s n (Qas s)).out)) == false) (.int .u32 (now-idle)),pg (((decide (((((QaE s n (Qas s)).lines).length:Nat):Int)=0))||((QaE s n (Qas s)).out)) == false) (.bool (decide (now-idle<(QaE s n (Qas s)).tick))),pv (.bool (((decide (((((QaE s n (Qas s)).lines).length:Nat):Int)=0))||((QaE s n (Qas s)).out))||(decide (now-idle<(QaE s n (Qas s)).tick)))),pv (.bool (((decide (((((QaE s n (Qas s)).lines).length:Nat):Int)=0))||((QaE s n (Qas s)).out))||(decide (now-idle<(QaE s n (Qas s)).tick))))] (fun _ _=>_) [16] (by kernel_rfl) hs ⟨?_,?_,?_,?_,?_,?_,?_,?_,?_,?_,?_,?_,?_,?_,?_,?_,?_,trivial⟩ ?_))))))
 ·exact oa [] fun D J w hs=>Qae QcS rfl (Zz hs)
 ·exact oa [0] fun D J w hs=>QaF (V:=.slice x2.1 (((QaE s n (Qas s)).lines).length) x2.2) QfE hs 1 rfl rfl rfl (Zz hs)
 ·exact oa [1] fun D J w hs=>QaX (n:=((QaE s n (Qas s)).lines).length) Qc3 (hs.rd 0 rfl) (by simp) rfl (Zz hs)
 ·exact oa [2] fun D J w hs=>QaT rfl rfl (Zz hs)
 ·exact oa [3] fun D J w hs=>Qac (V:=.bool (decide (((((QaE s n (Qas s)).lines).length:Nat):Int)=0))) rfl (Zz hs)
 ·exact og [4] fun D J w hG hs=>Qae Qdi rfl (Zz hs)
 ·exact oy [4,5] [5] fun D J w hG hs=>QaF (V:=.bool ((QaE s n (Qas s)).out)) Qnt hs 1 rfl rfl rfl (Zz hs)
 ·exact oa [4,6] fun D J w hs=>QbM (h':=(QaE s n (Qas s)).out) rfl rfl rfl (Zz hs)
 ·exact oa [7] fun D J w hs=>Qac (V:=.bool ((decide (((((QaE s n (Qas s)).lines).length:Nat):Int)=0))||((QaE s n (Qas s)).out))) rfl (Zz hs)
 ·exact og [8] fun D J w hG hs=>Qae Qga rfl (Zz hs)
 ·exact oy [8,9] [9] fun D J w hG hs=>QaF (V:=.int .u32 ((QaE s n (Qas s)).tick)) Qa8 hs 1 rfl rfl rfl (Zz hs)
 ·exact og [8] fun D J w hG hs=>QnS (V:=.int .u32 now) Qa8 (hcn.own' hs) rfl rfl (Zz hs)
 ·exact og [8] fun D J w hG hs=>QnS (V:=.int .u32 idle) Qa8 (hci.own' hs) rfl rfl (Zz hs)
 ·exact oy [8,11,12] [11,12] fun D J w hG hs=>Qba (a:=now) (b:=idle) (c:=now-idle) rfl rfl (Qgv (by omega) (by omega)) (Zz hs)
 ·exact oy [8,10,13] [10,13] fun D J w hG hs=>QbW rfl rfl (Zz hs)
 ·exact oa [8,14] fun D J w hs=>QbM (h':=decide (now-idle<(QaE s n (Qas s)).tick)) rfl rfl rfl (Zz hs)
 ·exact oa [15] fun D J w hs=>Qad (V:=.bool (((decide (((((QaE s n (Qas s)).lines).length:Nat):Int)=0))||((QaE s n (Qas s)).out))||(decide (now-idle<(QaE s n (Qas s)).tick)))) rfl (Zz hs)
 rintro J1 w6 J2 hJ hs
 replace hJ:J2=upd (mix (sq 10 16++[5]) J1 _) 5 (.bool (((decide (((((QaE s n (Qas s)).lines).length:Nat):Int)=0))||((QaE s n (Qas s)).out))||(decide (now-idle<(QaE s n (Qas s)).tick)))):=hJ
 subst hJ
 refine Qaw ?_
 refine ⟨_,Qaq (V:=.bool (((decide (((((QaE s n (Qas s)).lines).length:Nat):Int)=0))||((QaE s n (Qas s)).out))||(decide (now-idle<(QaE s n (Qas s)).tick)))) Tryz.results68 rfl,(Zr hs ?_)⟩
 rfl
end Tt
end Go.Proofs
namespace Go.Proofs
open Go Go.Vx Go.RowKit
namespace Tt
theorem Qsc (w:World) (p:Pst) (a1:Option Addr) (c1:Nat) (a2:Option Addr) (c2:Nat) (a3:Option Addr) (c3:Nat) (cut:Vec) (hcut:QbX cut) (now idle:Int) (hb2:(0<=now/\now<4294967296)/\0<=idle) (hsortE:QgW Tryz.prog 48 49 cec 106 7 QjK) (hsortU:QgX Tryz.prog 134 .u16 32) (hok:Qdw p) (hle:p.base.ents.length<=400) (hlt:p.base.ticks.length<=400) (hlo:p.ops.length<=400) (hr1:Rd w (.slice a1 p.base.ents.length c1) 7 (p.base.ents.map cec)) (hr2:Rd w (.slice a2 p.base.ticks.length c2) 2 (p.base.ticks.map lsc)) (hr3:Rd w (.slice a3 p.ops.length c3) 23 (p.ops.map oc)):Calls Tryz.prog 25 #[.agg (((vc p.base.known)++[(.slice a1 p.base.ents.length c1:Value),(.slice a2 p.base.ticks.length c2:Value) ])++[(.slice a3 p.ops.length c3:Value) ]++(vc p.known)).toArray,.agg (vc cut).toArray,.int .u32 now,.int .u32 idle] w (fun e w'=>∃ x:Option Addr × Nat,e = .returned (.tuple #[.slice x.1 (abR p cut now idle).length x.2,.int .i64 (abI p cut now idle)])/\Own w no w' [row (.slice x.1 (abR p cut now idle).length x.2) ((abR p cut now idle).map (ic .u16)) 32 1]/\True):=by
 refine Qaj (n:=30) Tryz.func25 rfl Tryz.ntmps25 rfl ?_
 have hs:=Own.start w
 have ⟨hokb,hoko,hokk⟩:=hok
 have hsl:=QcG p cut
 have hso:=QdY (cut:=cut) hok hcut
 have hcl:=QiW (Qah p cut)
 refine Qag (Qab (Qaa (QaR (V:=.agg (((vc p.base.known)++[(.slice a1 p.base.ents.length c1:Value),(.slice a2 p.base.ticks.length c2:Value) ])++[(.slice a3 p.ops.length c3:Value) ]++(vc p.known)).toArray) (cs:=((vc p.base.known)++[(.slice a1 p.base.ents.length c1:Value),(.slice a2 p.base.ticks.length c2:Value) ])++[(.slice a3 p.ops.length c3:Value) ]++(vc p.known)) rfl rfl hs fun b1 w2 hs=>(Qaa (QaR (V:=.agg (vc cut).toArray) (cs:=vc cut) rfl rfl hs fun b3 w4 hs=>(Qaa (QaR (V:=.int .u32 now) (cs:=[.int .u32 now]) rfl rfl hs fun b5 w6 hs=>(Qaa (QaR (V:=.int .u32 idle) (cs:=[.int .u32 idle]) rfl rfl hs fun b7 w8 hs=>?_)))))))))
 replace hs:Own w no w8 [blk b1 (((vc p.base.known)++[(.slice a1 p.base.ents.length c1:Value),(.slice a2 p.base.ticks.length c2:Value) ])++[(.slice a3 p.ops.length c3:Value) ]++(vc p.known)) 43,blk b3 (vc cut) 24,blk b5 [.int .u32 now] 22,blk b7 [.int .u32 idle] 22]:=hs
 refine Qaa (Qad (V:=.slice none 0 0) rfl (Qaa (Qad (V:=I6 0) rfl (Qaf (Qag (Qab (Qaa (QaI (cs:=((vc p.base.known)++[(.slice a1 p.base.ents.length c1:Value),(.slice a2 p.base.ticks.length c2:Value) ])++[(.slice a3 p.ops.length c3:Value) ]++(vc p.known)) QeE hs 0 rfl rfl rfl (Qaa (QaI (cs:=vc cut) Qbt hs 1 rfl rfl rfl (Qaa (Qbf (α:=(Option Addr × Nat) × (Option Addr × Nat)) (vs:=[.agg (((vc p.base.known)++[(.slice a1 p.base.ents.length c1:Value),(.slice a2 p.base.ticks.length c2:Value) ])++[(.slice a3 p.ops.length c3:Value) ]++(vc p.known)).toArray,.agg (vc cut).toArray]) (V:=fun x:(Option Addr × Nat) × (Option Addr × Nat)=>.tuple #[.agg (vc (Qah p cut).known++[(.slice x.1.1 ((Qah p cut).ents).length x.1.2:Value),(.slice x.2.1 ((Qah p cut).ticks).length x.2.2:Value)]).toArray,I6 (QaY p cut)]) (Lo:=fun x=>[row (.slice x.1.1 ((Qah p cut).ents).length x.1.2) (((Qah p cut).ents).map cec) 106 7,row (.slice x.2.1 ((Qah p cut).ticks).length x.2.2) (((Qah p cut).ticks).map lsc) 102 2]) (F:=fun _ _=>True) QkA rfl rfl ?hc hs fun x10 w9 hs _=>?_))))))))))))
 case hc=>exact (Qdx _ p a1 c1 a2 c2 a3 c3 cut hcut hsortE hsortU hok hle hlt hlo (Rd.own' hr1 hs) (Rd.own' hr2 hs) (Rd.own' hr3 hs))
 refine Qaa (Qac (V:=.tuple #[.agg ((vc ((Qah p cut).known))++[(.slice x10.1.1 (((Qah p cut).ents).length) x10.1.2:Value),(.slice x10.2.1 (((Qah p cut).ticks).length) x10.2.2:Value) ]).toArray,I6 (QaY p cut)]) rfl (Qaa (Qaz (V:=.agg ((vc ((Qah p cut).known))++[(.slice x10.1.1 (((Qah p cut).ents).length) x10.1.2:Value),(.slice x10.2.1 (((Qah p cut).ticks).length) x10.2.2:Value) ]).toArray) rfl rfl (Qaa (Qaz (V:=I6 (QaY p cut)) rfl rfl (Qaa (QaK (cs:=(vc vzero)++[(.slice none 0 0:Value),(.slice none 0 0:Value) ]) QgU rfl hs fun b11 w12 hs=>(Qaa (Qcq (V:=.agg ((vc ((Qah p cut).known))++[(.slice x10.1.1 (((Qah p cut).ents).length) x10.1.2:Value),(.slice x10.2.1 (((Qah p cut).ticks).length) x10.2.2:Value) ]).toArray) (vs:=(vc ((Qah p cut).known))++[(.slice x10.1.1 (((Qah p cut).ents).length) x10.1.2:Value),(.slice x10.2.1 (((Qah p cut).ticks).length) x10.2.2:Value) ]) (cs':=(vc ((Qah p cut).known))++[(.slice x10.1.1 (((Qah p cut).ents).length) x10.1.2:Value),(.slice x10.2.1 (((Qah p cut).ticks).length) x10.2.2:Value) ]) QcD.1 hs 6 rfl rfl rfl rfl rfl (QQ8 rfl) (QbB (Qcd _) (Qat rfl (Qat rfl Qa9))) (Qay rfl) fun w13 hs=>(Qaa (Qad (V:=I6 (QaY p cut)) rfl (Qaf (Qag (Qam (Qag (Qab (Qaa (Qac (V:=I6 (QaY p cut)) rfl (Qaa (Qb7 rfl rfl (Qaa (Qad (V:=.bool (!decide (QaY p cut=0))) rfl (Qaf (Qan (t:=!decide (QaY p cut=0)) rfl (fun c14=>?_) (fun c14=>?_)))))))))))))))))))))))))
 ·
  replace c14:=Qbs c14
  replace c14:=QQ2 c14
  refine Qag (Qab (Qaa (Qac (V:=I6 (QaY p cut)) rfl (Qaa (Qad (V:=.slice none 0 0) rfl (Qaa (Qad (V:=I6 (QaY p cut)) rfl (Qaf (Qaw ?_)))))))))
  refine ⟨_,Qbw (U:=.slice none 0 0) (V:=I6 (QaY p cut)) Tryz.results25 rfl rfl,?_⟩
  have hX:abI p cut now idle=QaY p cut:=QvJ c14
  rw [QtO (by rw [hX];exact c14),hX]
  exact ⟨(none,0),rfl,(hs.take 0).more _ (Qbo _ _ _ _),trivial⟩
 replace c14:=Qbd c14
 replace c14:=QQ1 c14
 refine Qag (Qab (Qaa (QaF (V:=.int .u32 idle) Qa8 hs 3 rfl rfl rfl (Qaa (QaF (V:=.int .u32 now) Qa8 hs 2 rfl rfl rfl (Qaa (QbW rfl rfl (Qaa (Qad (V:=.bool (decide (now<idle))) rfl (Qaf (Qan (t:=decide (now<idle)) rfl (fun c15=>?_) (fun c15=>?_))))))))))))
 ·
  replace c15:=QQ1 c15
  refine Qag (Qab (Qaa (Qad (V:=.slice none 0 0) rfl (Qaa (Qad (V:=I6 2) rfl (Qaf (Qaw ?_)))))))
  refine ⟨_,Qbw (U:=.slice none 0 0) (V:=I6 2) Tryz.results25 rfl rfl,?_⟩
  have hX:abI p cut now idle=2:=QvF c14 c15
  rw [QtO (by rw [hX];decide),hX]
  exact ⟨(none,0),rfl,(hs.take 0).more _ (Qbo _ _ _ _),trivial⟩
 replace c15:=QQ2 c15
 refine Qap (Qag ?_)
 have hnow:0<=idle/\idle<=now/\now<4294967296:=by omega
 refine Qab (Qaa (QaI (cs:=(vc ((Qah p cut).known))++[(.slice x10.1.1 (((Qah p cut).ents).length) x10.1.2:Value),(.slice x10.2.1 (((Qah p cut).ticks).length) x10.2.2:Value) ]) QcD hs 6 rfl rfl rfl (Qaa (Qbf (vs:=[.agg ((vc ((Qah p cut).known))++[(.slice x10.1.1 (((Qah p cut).ents).length) x10.1.2:Value),(.slice x10.2.1 (((Qah p cut).ticks).length) x10.2.2:Value) ]).toArray]) (V:=fun x:Option Addr × Nat=>.slice x.1 (QaB (Qah p cut)).length x.2) Qsb rfl rfl (Qh5 _ (Qah p cut) x10.1.1 x10.1.2 x10.2.1 x10.2.2 hso (by omega) (by omega) (hs.rd 4 rfl) (hs.rd 5 rfl)) hs fun x16 w17 hs _=>?_))))
 replace hs:Own w no w17 [blk b1 (((vc p.base.known)++[(.slice a1 p.base.ents.length c1:Value),(.slice a2 p.base.ticks.length c2:Value) ])++[(.slice a3 p.ops.length c3:Value) ]++(vc p.known)) 43,blk b3 (vc cut) 24,blk b5 [.int .u32 now] 22,blk b7 [.int .u32 idle] 22,row (.slice x10.1.1 (((Qah p cut).ents).length) x10.1.2) (((Qah p cut).ents).map cec) 106 7,row (.slice x10.2.1 (((Qah p cut).ticks).length) x10.2.2) (((Qah p cut).ticks).map lsc) 102 2,blk b11 ((vc ((Qah p cut).known))++[(.slice x10.1.1 (((Qah p cut).ents).length) x10.1.2:Value),(.slice x10.2.1 (((Qah p cut).ticks).length) x10.2.2:Value) ]) 38,row (.slice x16.1 ((QaB (Qah p cut)).length) x16.2) ((QaB (Qah p cut)).map (ic .u16)) 32 1]:=hs
 refine Qaa (QdA (cs:=[Pq b11 0,Pq b5 0,Pq b7 0]) rfl rfl (Qaa (Qjg (α:=Unit) (vs:=[.slice x16.1 ((QaB (Qah p cut)).length) x16.2,.func (.func 68) #[] #[Pq b11 0,Pq b5 0,Pq b7 0]]) (V:=fun _=>.slice x16.1 ((QaB (Qah p cut)).filter fun x=>!(fun n=>QgY (Qbb p cut n) now idle) x).length x16.2) (R:=row (.slice x16.1 ((QaB (Qah p cut)).length) x16.2) ((QaB (Qah p cut)).map (ic .u16)) 32 1) (R':=fun _=>row (.slice x16.1 ((QaB (Qah p cut)).filter fun x=>!(fun n=>QgY (Qbb p cut n) now idle) x).length x16.2) (((QaB (Qah p cut)).filter fun x=>!(fun n=>QgY (Qbb p cut n) now idle) x).map (ic .u16)) 32 1) (Lo:=fun _=>[]) (F:=fun _ _=>True) Qvu rfl rfl hs 7 rfl (fun S hS hlS hK=>QnV _ S x16.1 x16.2 (QaB (Qah p cut)) 68 [Pq b11 0,Pq b5 0,Pq b7 0] QuA (fun n=>QgY (Qbb p cut n) now idle) (fun w1 L1 h x hx=>QsC w1 x b11 b5 b7 (Qah p cut) x10.1.1 x10.1.2 x10.2.1 x10.2.2 now idle hnow hso (by omega) (by omega) ((hK 6 (by decide) _ rfl).cells h) ((hK 2 (by decide) _ rfl).cells h) ((hK 3 (by decide) _ rfl).cells h) ((hK 4 (by decide) _ rfl).rd h) ((hK 5 (by decide) _ rfl).rd h)) hS hlS) fun _ w18 hs _=>(Qaa (Qad (V:=.slice x16.1 (((QaB (Qah p cut)).filter fun x=>!(fun n=>QgY (Qbb p cut n) now idle) x).length) x16.2) rfl (Qaa (Qad (V:=I6 0) rfl (Qaf (Qaw ?_)))))))))
 refine ⟨_,Qbw (U:=.slice x16.1 (((QaB (Qah p cut)).filter fun x=>!(fun n=>QgY (Qbb p cut n) now idle) x).length) x16.2) (V:=I6 0) Tryz.results25 rfl rfl,?_⟩
 have hX:abI p cut now idle=0:=QtR c14 c15
 rw [QpI hX,hX]
 exact ⟨(x16.1,x16.2),rfl,hs.only 7 rfl,trivial⟩
end Tt
end Go.Proofs
namespace Go.Proofs
open Go Go.Vx Go.RowKit
namespace Tt
theorem QkH (w:World) (hsortE:QgW Tryz.prog 48 49 cec 106 7 QjK) (hsortU:QgX Tryz.prog 134 .u16 32):Calls Tryz.prog 10 #[] w (fun e w'=>e = .returned (.bool true)/\Own w no w' []):=by
 refine Qaj (n:=101) Tryz.func10 rfl Tryz.ntmps10 rfl ?_
 have hs:=Own.start w
 refine Qag (Qab (Qaa (Qad (V:=.bool false) rfl (Qaf (Qag (Qab (Qaa (Qby (vs:=[(1,.int .u32 1)]) (cs:=dc (⟨0,1⟩:Dot)) Qva (rfl) rfl (Qaa (Qbk (V:=.agg (oc (⟨(⟨0,1⟩:Dot),1,3,4,2,5,vzero⟩:Opn)).toArray) (V':=.agg (oc Qp6).toArray) (Qcs (vs:=[(0,.agg (dc (⟨0,1⟩:Dot)).toArray),(1,.int .u8 1),(2,I7 3),(3,I7 4),(4,I7 2),(5,.int .u32 5)]) (cs:=oc (⟨(⟨0,1⟩:Dot),1,3,4,2,5,vzero⟩:Opn)) [dc (⟨0,0⟩:Dot),[(.int .u8 0:Value)],[(I7 0:Value)],[(I7 0:Value)],[(I7 0:Value)],[(.int .u32 0:Value)],vc vzero] [dc (⟨0,1⟩:Dot),[(.int .u8 1:Value)],[(I7 3:Value)],[(I7 4:Value)],[(I7 2:Value)],[(.int .u32 5:Value)],vc vzero] Qqt rfl (rfl) rfl rfl ⟨rfl,rfl⟩) rfl (Qaa (QeP (vals:=[.agg (oc Qp6).toArray]) (ls:=List.map oc ([Qp6]:List Opn)) Ql5 rfl rfl rfl (Qbi (enc:=oc) (fun _=>rfl) _) (QaL Qep _) (QQ8 rfl) hs fun b1 w2 hs=>(Qaa (Qbk (V:=.agg (vc (vset vzero 0 1)).toArray) (V':=.agg (vc alK).toArray) (Qby (vs:=[(0,.int .u32 1)]) (cs:=vc (vset vzero 0 1)) Qig (rfl) rfl ⟨rfl,rfl⟩) rfl (Qaa (Qcs (vs:=[(1,.slice (some ⟨b1,0,none⟩) 1 1),(2,.agg (vc alK).toArray)]) (cs:=((vc vzero)++[(.slice none 0 0:Value),(.slice none 0 0:Value) ])++[(.slice (some ⟨b1,0,none⟩) 1 1:Value) ]++(vc alK)) [(vc vzero)++[(.slice none 0 0:Value),(.slice none 0 0:Value) ],[(.slice none 0 0:Value)],vc vzero] [(vc vzero)++[(.slice none 0 0:Value),(.slice none 0 0:Value) ],[(.slice (some ⟨b1,0,none⟩) 1 1:Value)],vc alK] QsF rfl (rfl) rfl rfl (Qaa (QaK (cs:=((vc vzero)++[(.slice none 0 0:Value),(.slice none 0 0:Value) ])++[(.slice none 0 0:Value) ]++(vc vzero)) QtG rfl hs fun b3 w4 hs=>(Qaa (Qcq (V:=.agg (((vc vzero)++[(.slice none 0 0:Value),(.slice none 0 0:Value) ])++[(.slice (some ⟨b1,0,none⟩) 1 1:Value) ]++(vc alK)).toArray) (vs:=((vc vzero)++[(.slice none 0 0:Value),(.slice none 0 0:Value) ])++[(.slice (some ⟨b1,0,none⟩) 1 1:Value) ]++(vc alK)) (cs':=((vc vzero)++[(.slice none 0 0:Value),(.slice none 0 0:Value) ])++[(.slice (some ⟨b1,0,none⟩) 1 1:Value) ]++(vc alK)) QeE.1 hs 1 rfl rfl rfl rfl rfl (QQ8 rfl) (QbB (QbB (QbB (Qcd _) (Qat rfl (Qat rfl Qa9))) (Qat rfl Qa9)) (Qcd _)) (Qay rfl) fun w5 hs=>(Qaf (Qag (Qab (Qaa (QaI (cs:=((vc vzero)++[(.slice none 0 0:Value),(.slice none 0 0:Value) ])++[(.slice (some ⟨b1,0,none⟩) 1 1:Value) ]++(vc alK)) QeE hs 1 rfl rfl rfl (Qaa (Qbk (V:=.agg (vc (vset vzero 0 1)).toArray) (V':=.agg (vc alK).toArray) (Qby (vs:=[(0,.int .u32 1)]) (cs:=vc (vset vzero 0 1)) Qig (rfl) rfl ⟨rfl,rfl⟩) rfl (Qaa (Qbf (α:=Option Addr × Nat) (vs:=[.agg (((vc vzero)++[(.slice none 0 0:Value),(.slice none 0 0:Value) ])++[(.slice (some ⟨b1,0,none⟩) 1 1:Value) ]++(vc alK)).toArray,.agg (vc alK).toArray,I7 3]) (V:=fun x=>.tuple #[.agg #[I7 ((Qav alP alK 3).cart),.slice x.1 (((Qav alP alK 3).lines).length) x.2,.bool ((Qav alP alK 3).out),.int .u32 ((Qav alP alK 3).tick)],I6 (QaY alP alK)]) (Lo:=fun x=>[row (.slice x.1 ((Qav alP alK 3).lines).length x.2) (((Qav alP alK 3).lines).map lc) 127 2]) (F:=fun _ _=>True) Qqm rfl rfl ?hc hs fun x7 w6 hs _=>?_)))))))))))))))))))))))))))))
 case hc=>exact (QhW _ alP none 0 none 0 (some ⟨b1,0,none⟩) 1 alK Qix 3 hsortE hsortU Qhd (by decide) (by decide) (by decide) (Rd.nil _ 7) (Rd.nil _ 2) (hs.rd 0 rfl))
 replace hs:Own w no w6 [row (.slice (some ⟨b1,0,none⟩) 1 1) ([Qp6].map oc) 98 23,blk b3 (((vc vzero)++[(.slice none 0 0:Value),(.slice none 0 0:Value) ])++[(.slice (some ⟨b1,0,none⟩) 1 1:Value) ]++(vc alK)) 43,row (.slice x7.1 (((Qav alP alK 3).lines).length) x7.2) (((Qav alP alK 3).lines).map lc) 127 2]:=hs
 refine Qaa (Qac (V:=.tuple #[.agg #[I7 ((Qav alP alK 3).cart),.slice x7.1 (((Qav alP alK 3).lines).length) x7.2,.bool ((Qav alP alK 3).out),.int .u32 ((Qav alP alK 3).tick)],I6 (QaY alP alK)]) rfl (Qaa (Qaz (V:=.agg #[I7 ((Qav alP alK 3).cart),.slice x7.1 (((Qav alP alK 3).lines).length) x7.2,.bool ((Qav alP alK 3).out),.int .u32 ((Qav alP alK 3).tick)]) rfl rfl (Qaa (Qaz (V:=I6 (QaY alP alK)) rfl rfl (Qaa (QaK (cs:=[I7 0,.slice none 0 0,.bool false,.int .u32 0]) Qgl rfl hs fun b8 w9 hs=>(Qaa (Qcq (V:=.agg #[I7 ((Qav alP alK 3).cart),.slice x7.1 (((Qav alP alK 3).lines).length) x7.2,.bool ((Qav alP alK 3).out),.int .u32 ((Qav alP alK 3).tick)]) (vs:=[I7 ((Qav alP alK 3).cart),.slice x7.1 (((Qav alP alK 3).lines).length) x7.2,.bool ((Qav alP alK 3).out),.int .u32 ((Qav alP alK 3).tick)]) (cs':=[I7 ((Qav alP alK 3).cart),.slice x7.1 (((Qav alP alK 3).lines).length) x7.2,.bool ((Qav alP alK 3).out),.int .u32 ((Qav alP alK 3).tick)]) Qcr.1 hs 3 rfl rfl rfl rfl rfl (QQ8 rfl) (Qat rfl (Qat rfl (Qat rfl (Qat rfl Qa9)))) (Qay rfl) fun w10 hs=>(Qaa (Qad (V:=I6 (QaY alP alK)) rfl (Qaf (Qag (Qab (Qaa (QaI (cs:=((vc vzero)++[(.slice none 0 0:Value),(.slice none 0 0:Value) ])++[(.slice (some ⟨b1,0,none⟩) 1 1:Value) ]++(vc alK)) QeE hs 1 rfl rfl rfl (Qaa (Qby (vs:=[]) (cs:=vc vzero) Qig (rfl) rfl (Qaa (Qbk (V:=.agg (vc (vset vzero 0 1)).toArray) (V':=.agg (vc alK).toArray) (Qby (vs:=[(0,.int .u32 1)]) (cs:=vc (vset vzero 0 1)) Qig (rfl) rfl ⟨rfl,rfl⟩) rfl (Qaa (Qbf (vs:=[.agg (((vc vzero)++[(.slice none 0 0:Value),(.slice none 0 0:Value) ])++[(.slice (some ⟨b1,0,none⟩) 1 1:Value) ]++(vc alK)).toArray,.agg (vc vzero).toArray,.agg (vc alK).toArray]) (V:=fun x:Option Addr × Nat=>.tuple #[.slice x.1 (QcU alP vzero alK).length x.2,I6 (Qc9 alP vzero alK)]) QvA rfl rfl (Qox _ alP none 0 none 0 (some ⟨b1,0,none⟩) 1 vzero alK Qb1 Qix hsortE hsortU Qhd (by decide) (by decide) (by decide) (Rd.nil _ 7) (Rd.nil _ 2) (hs.rd 0 rfl)) hs fun x12 w11 hs _=>(Qaa (Qac (V:=.tuple #[.slice x12.1 ((QcU alP vzero alK).length) x12.2,I6 (Qc9 alP vzero alK)]) rfl (Qaa (Qaz (V:=.slice x12.1 ((QcU alP vzero alK).length) x12.2) rfl rfl (Qaa (Qaz (V:=I6 (Qc9 alP vzero alK)) rfl rfl (Qaa (Qad (V:=.slice x12.1 ((QcU alP vzero alK).length) x12.2) rfl (Qaa (Qad (V:=I6 (Qc9 alP vzero alK)) rfl (Qaf (Qag (Qab (Qaa (QaI (cs:=((vc vzero)++[(.slice none 0 0:Value),(.slice none 0 0:Value) ])++[(.slice (some ⟨b1,0,none⟩) 1 1:Value) ]++(vc alK)) QeE hs 1 rfl rfl rfl (Qaa (Qbk (V:=.agg (vc (vset vzero 0 1)).toArray) (V':=.agg (vc alK).toArray) (Qby (vs:=[(0,.int .u32 1)]) (cs:=vc (vset vzero 0 1)) Qig (rfl) rfl ⟨rfl,rfl⟩) rfl (Qaa (Qbf (vs:=[.agg (((vc vzero)++[(.slice none 0 0:Value),(.slice none 0 0:Value) ])++[(.slice (some ⟨b1,0,none⟩) 1 1:Value) ]++(vc alK)).toArray,.agg (vc alK).toArray,.int .u32 9,.int .u32 4]) (V:=fun x:Option Addr × Nat=>.tuple #[.slice x.1 (abR alP alK 9 4).length x.2,I6 (abI alP alK 9 4)]) Quj rfl rfl (Qsc _ alP none 0 none 0 (some ⟨b1,0,none⟩) 1 alK Qix 9 4 ⟨⟨by decide,by decide⟩,by decide⟩ hsortE hsortU Qhd (by decide) (by decide) (by decide) (Rd.nil _ 7) (Rd.nil _ 2) (hs.rd 0 rfl)) hs fun x14 w13 hs _=>?_)))))))))))))))))))))))))))))))))))))))))
 replace hs:Own w no w13 [row (.slice (some ⟨b1,0,none⟩) 1 1) ([Qp6].map oc) 98 23,blk b3 (((vc vzero)++[(.slice none 0 0:Value),(.slice none 0 0:Value) ])++[(.slice (some ⟨b1,0,none⟩) 1 1:Value) ]++(vc alK)) 43,row (.slice x7.1 (((Qav alP alK 3).lines).length) x7.2) (((Qav alP alK 3).lines).map lc) 127 2,blk b8 [I7 ((Qav alP alK 3).cart),.slice x7.1 (((Qav alP alK 3).lines).length) x7.2,.bool ((Qav alP alK 3).out),.int .u32 ((Qav alP alK 3).tick)] 49,row (.slice x12.1 ((QcU alP vzero alK).length) x12.2) ((QcU alP vzero alK).map dfc) 83 5,row (.slice x14.1 ((abR alP alK 9 4).length) x14.2) ((abR alP alK 9 4).map (ic .u16)) 32 1]:=hs
 refine Qaa (Qac (V:=.tuple #[.slice x14.1 ((abR alP alK 9 4).length) x14.2,I6 (abI alP alK 9 4)]) rfl (Qaa (Qaz (V:=.slice x14.1 ((abR alP alK 9 4).length) x14.2) rfl rfl (Qaa (Qaz (V:=I6 (abI alP alK 9 4)) rfl rfl (Qaa (Qad (V:=.slice x14.1 ((abR alP alK 9 4).length) x14.2) rfl (Qaa (Qad (V:=I6 (abI alP alK 9 4)) rfl (Qaf (Qag (Qab (Qaa (QaI (cs:=((vc vzero)++[(.slice none 0 0:Value),(.slice none 0 0:Value) ])++[(.slice (some ⟨b1,0,none⟩) 1 1:Value) ]++(vc alK)) QeE hs 1 rfl rfl rfl (Qaa (Qbk (V:=.agg (vc (vset vzero 0 2)).toArray) (V':=.agg (vc Qdl).toArray) (Qby (vs:=[(0,.int .u32 2)]) (cs:=vc (vset vzero 0 2)) Qig (rfl) rfl ⟨rfl,rfl⟩) rfl (Qaa (Qbf (α:=Option Addr × Nat) (vs:=[.agg (((vc vzero)++[(.slice none 0 0:Value),(.slice none 0 0:Value) ])++[(.slice (some ⟨b1,0,none⟩) 1 1:Value) ]++(vc alK)).toArray,.agg (vc Qdl).toArray,I7 3]) (V:=fun x=>.tuple #[.agg #[I7 ((Qav alP Qdl 3).cart),.slice x.1 (((Qav alP Qdl 3).lines).length) x.2,.bool ((Qav alP Qdl 3).out),.int .u32 ((Qav alP Qdl 3).tick)],I6 (QaY alP Qdl)]) (Lo:=fun x=>[row (.slice x.1 ((Qav alP Qdl 3).lines).length x.2) (((Qav alP Qdl 3).lines).map lc) 127 2]) (F:=fun _ _=>True) Qqm rfl rfl ?hc hs fun x16 w15 hs _=>?_))))))))))))))))))
 case hc=>exact (QhW _ alP none 0 none 0 (some ⟨b1,0,none⟩) 1 Qdl QqS 3 hsortE hsortU Qhd (by decide) (by decide) (by decide) (Rd.nil _ 7) (Rd.nil _ 2) (hs.rd 0 rfl))
 refine Qaa (Qac (V:=.tuple #[.agg #[I7 ((Qav alP Qdl 3).cart),.slice x16.1 (((Qav alP Qdl 3).lines).length) x16.2,.bool ((Qav alP Qdl 3).out),.int .u32 ((Qav alP Qdl 3).tick)],I6 (QaY alP Qdl)]) rfl (Qaa (Qaz (V:=.agg #[I7 ((Qav alP Qdl 3).cart),.slice x16.1 (((Qav alP Qdl 3).lines).length) x16.2,.bool ((Qav alP Qdl 3).out),.int .u32 ((Qav alP Qdl 3).tick)]) rfl rfl (Qaa (Qaz (V:=I6 (QaY alP Qdl)) rfl rfl (Qaa (QaK (cs:=[I7 0,.slice none 0 0,.bool false,.int .u32 0]) Qgl rfl hs fun b17 w18 hs=>(Qaa (Qcq (V:=.agg #[I7 ((Qav alP Qdl 3).cart),.slice x16.1 (((Qav alP Qdl 3).lines).length) x16.2,.bool ((Qav alP Qdl 3).out),.int .u32 ((Qav alP Qdl 3).tick)]) (vs:=[I7 ((Qav alP Qdl 3).cart),.slice x16.1 (((Qav alP Qdl 3).lines).length) x16.2,.bool ((Qav alP Qdl 3).out),.int .u32 ((Qav alP Qdl 3).tick)]) (cs':=[I7 ((Qav alP Qdl 3).cart),.slice x16.1 (((Qav alP Qdl 3).lines).length) x16.2,.bool ((Qav alP Qdl 3).out),.int .u32 ((Qav alP Qdl 3).tick)]) Qcr.1 hs 7 rfl rfl rfl rfl rfl (QQ8 rfl) (Qat rfl (Qat rfl (Qat rfl (Qat rfl Qa9)))) (Qay rfl) fun w19 hs=>(Qaa (Qad (V:=I6 (QaY alP Qdl)) rfl (Qaf (Qag (Qab (Qaa (QaI (cs:=((vc vzero)++[(.slice none 0 0:Value),(.slice none 0 0:Value) ])++[(.slice (some ⟨b1,0,none⟩) 1 1:Value) ]++(vc alK)) QeE hs 1 rfl rfl rfl (Qaa (Qbk (V:=.agg (vc (vset vzero 0 1)).toArray) (V':=.agg (vc alK).toArray) (Qby (vs:=[(0,.int .u32 1)]) (cs:=vc (vset vzero 0 1)) Qig (rfl) rfl ⟨rfl,rfl⟩) rfl (Qaa (Qbf (α:=(Option Addr × Nat) × (Option Addr × Nat)) (vs:=[.agg (((vc vzero)++[(.slice none 0 0:Value),(.slice none 0 0:Value) ])++[(.slice (some ⟨b1,0,none⟩) 1 1:Value) ]++(vc alK)).toArray,.agg (vc alK).toArray]) (V:=fun x:(Option Addr × Nat) × (Option Addr × Nat)=>.tuple #[.agg (vc (Qah alP alK).known++[(.slice x.1.1 ((Qah alP alK).ents).length x.1.2:Value),(.slice x.2.1 ((Qah alP alK).ticks).length x.2.2:Value)]).toArray,I6 (QaY alP alK)]) (Lo:=fun x=>[row (.slice x.1.1 ((Qah alP alK).ents).length x.1.2) (((Qah alP alK).ents).map cec) 106 7,row (.slice x.2.1 ((Qah alP alK).ticks).length x.2.2) (((Qah alP alK).ticks).map lsc) 102 2]) (F:=fun _ _=>True) QkA rfl rfl ?hc hs fun x21 w20 hs _=>?_))))))))))))))))))))
 case hc=>exact (Qdx _ alP none 0 none 0 (some ⟨b1,0,none⟩) 1 alK Qix hsortE hsortU Qhd (by decide) (by decide) (by decide) (Rd.nil _ 7) (Rd.nil _ 2) (hs.rd 0 rfl))
 replace hs:Own w no w20 [row (.slice (some ⟨b1,0,none⟩) 1 1) ([Qp6].map oc) 98 23,blk b3 (((vc vzero)++[(.slice none 0 0:Value),(.slice none 0 0:Value) ])++[(.slice (some ⟨b1,0,none⟩) 1 1:Value) ]++(vc alK)) 43,row (.slice x7.1 (((Qav alP alK 3).lines).length) x7.2) (((Qav alP alK 3).lines).map lc) 127 2,blk b8 [I7 ((Qav alP alK 3).cart),.slice x7.1 (((Qav alP alK 3).lines).length) x7.2,.bool ((Qav alP alK 3).out),.int .u32 ((Qav alP alK 3).tick)] 49,row (.slice x12.1 ((QcU alP vzero alK).length) x12.2) ((QcU alP vzero alK).map dfc) 83 5,row (.slice x14.1 ((abR alP alK 9 4).length) x14.2) ((abR alP alK 9 4).map (ic .u16)) 32 1,row (.slice x16.1 (((Qav alP Qdl 3).lines).length) x16.2) (((Qav alP Qdl 3).lines).map lc) 127 2,blk b17 [I7 ((Qav alP Qdl 3).cart),.slice x16.1 (((Qav alP Qdl 3).lines).length) x16.2,.bool ((Qav alP Qdl 3).out),.int .u32 ((Qav alP Qdl 3).tick)] 49,row (.slice x21.1.1 (((Qah alP alK).ents).length) x21.1.2) (((Qah alP alK).ents).map cec) 106 7,row (.slice x21.2.1 (((Qah alP alK).ticks).length) x21.2.2) (((Qah alP alK).ticks).map lsc) 102 2]:=hs
 refine Qaa (Qac (V:=.tuple #[.agg ((vc ((Qah alP alK).known))++[(.slice x21.1.1 (((Qah alP alK).ents).length) x21.1.2:Value),(.slice x21.2.1 (((Qah alP alK).ticks).length) x21.2.2:Value) ]).toArray,I6 (QaY alP alK)]) rfl (Qaa (Qaz (V:=.agg ((vc ((Qah alP alK).known))++[(.slice x21.1.1 (((Qah alP alK).ents).length) x21.1.2:Value),(.slice x21.2.1 (((Qah alP alK).ticks).length) x21.2.2:Value) ]).toArray) rfl rfl (Qaa (Qaz (V:=I6 (QaY alP alK)) rfl rfl (Qaa (QaK (cs:=(vc vzero)++[(.slice none 0 0:Value),(.slice none 0 0:Value) ]) QgU rfl hs fun b22 w23 hs=>(Qaa (Qcq (V:=.agg ((vc ((Qah alP alK).known))++[(.slice x21.1.1 (((Qah alP alK).ents).length) x21.1.2:Value),(.slice x21.2.1 (((Qah alP alK).ticks).length) x21.2.2:Value) ]).toArray) (vs:=(vc ((Qah alP alK).known))++[(.slice x21.1.1 (((Qah alP alK).ents).length) x21.1.2:Value),(.slice x21.2.1 (((Qah alP alK).ticks).length) x21.2.2:Value) ]) (cs':=(vc ((Qah alP alK).known))++[(.slice x21.1.1 (((Qah alP alK).ents).length) x21.1.2:Value),(.slice x21.2.1 (((Qah alP alK).ticks).length) x21.2.2:Value) ]) QcD.1 hs 10 rfl rfl rfl rfl rfl (QQ8 rfl) (QbB (Qcd _) (Qat rfl (Qat rfl Qa9))) (Qay rfl) fun w24 hs=>(Qaa (Qad (V:=I6 (QaY alP alK)) rfl (Qaf (Qag ?_)))))))))))))
 have hdl:(QcU alP vzero alK).length=1:=by rw [QrJ];rfl
 refine Qab (Qaa (Qac (V:=I6 (QaY alP alK)) rfl (Qaa (Qbk (V:=.bool (decide (QaY alP alK=0))) (V':=.bool true) (QaT rfl rfl ⟨rfl,rfl⟩) (congrArg Value.bool (QQ3 Qfl)) (Qaa (Qac (V:=.bool true) rfl (Qcl rfl (Qae QcS rfl (Qcl rfl (QaF (V:=.slice x7.1 (((Qav alP alK 3).lines).length) x7.2) QfE hs 3 rfl rfl rfl (Qcl rfl (QaX (n:=((Qav alP alK 3).lines).length) Qc3 (hs.rd 2 rfl) (by simp) rfl (Qcl rfl (Qbk (V:=.bool (decide (((((Qav alP alK 3).lines).length:Nat):Int)=1))) (V':=.bool true) (QaT rfl rfl ⟨rfl,rfl⟩) (congrArg Value.bool (by rw [QqK];rfl)) (Qaa (Qcy (V:=.bool true) rfl rfl (Qaa (Qac (V:=.bool true) rfl (Qcl rfl (Qac (V:=I6 (Qc9 alP vzero alK)) rfl (Qcl rfl (Qbk (V:=.bool (decide (Qc9 alP vzero alK=0))) (V':=.bool true) (QaT rfl rfl ⟨rfl,rfl⟩) (congrArg Value.bool (QQ3 Qsj)) (Qaa (Qcy (V:=.bool true) rfl rfl (Qaa (Qac (V:=.bool true) rfl (Qcl rfl (Qac (V:=.slice x12.1 ((QcU alP vzero alK).length) x12.2) rfl (Qcl rfl (QaX (n:=(QcU alP vzero alK).length) QtX (hs.rd 4 rfl) (by simp) rfl (Qcl rfl (Qbk (V:=.bool (decide ((((QcU alP vzero alK).length:Nat):Int)=1))) (V':=.bool true) (QaT rfl rfl ⟨rfl,rfl⟩) (congrArg Value.bool (by rw [QrJ];rfl)) (Qaa (Qcy (V:=.bool true) rfl rfl (Qaa (Qac (V:=.bool true) rfl (Qcl rfl (Qac (V:=.slice x12.1 ((QcU alP vzero alK).length) x12.2) rfl (Qcl rfl (Qax QtX QiY.1 (hs.rd 4 rfl) rfl rfl (by decide) (by rw [QQ6];omega) (Qcl rfl (QaV (j:=0) (vs:=dfc (gd (QcU alP vzero alK) 0)) 0 QiY (hs.rd 4 rfl) (QaW (by omega)) rfl rfl rfl (by omega) (Qcl rfl (Qby (vs:=[(0,I7 3),(1,I7 4),(4,.int .u32 2)]) (cs:=dfc (⟨3,4,false,0,2⟩:Dif)) Qqf (rfl) rfl (Qcl rfl (Qbk (V:=.bool (decide (gd (QcU alP vzero alK) 0=(⟨3,4,false,0,2⟩:Dif)))) (V':=.bool true) (QnZ (xs:=dfc (gd (QcU alP vzero alK) 0)) (ys:=dfc (⟨3,4,false,0,2⟩:Dif)) Tryz.eqGuardType83 (QvD (gd (QcU alP vzero alK) 0) (⟨3,4,false,0,2⟩:Dif)) rfl rfl rfl ⟨rfl,rfl⟩) (congrArg Value.bool (by rw [QrJ];rfl)) (Qaa (Qcy (V:=.bool true) rfl rfl (Qaa (Qac (V:=.bool true) rfl (Qcl rfl (Qac (V:=I6 (abI alP alK 9 4)) rfl (Qcl rfl (Qbk (V:=.bool (decide (abI alP alK 9 4=0))) (V':=.bool true) (QaT rfl rfl ⟨rfl,rfl⟩) (congrArg Value.bool (QQ3 Qt9)) (Qaa (Qcy (V:=.bool true) rfl rfl (Qaa (Qac (V:=.bool true) rfl (Qcl rfl (Qac (V:=.slice x14.1 ((abR alP alK 9 4).length) x14.2) rfl (Qcl rfl (QaX (n:=(abR alP alK 9 4).length) QaO (hs.rd 5 rfl) (by simp) rfl (Qcl rfl (Qbk (V:=.bool (decide ((((abR alP alK 9 4).length:Nat):Int)=1))) (V':=.bool true) (QaT rfl rfl ⟨rfl,rfl⟩) (congrArg Value.bool (by rw [Qvc];rfl)) (Qaa (Qcy (V:=.bool true) rfl rfl (Qaa (Qac (V:=.bool true) rfl (Qcl rfl (Qac (V:=I6 (QaY alP Qdl)) rfl (Qcl rfl (Qbk (V:=.bool (decide (QaY alP Qdl=11))) (V':=.bool true) (QaT rfl rfl ⟨rfl,rfl⟩) (congrArg Value.bool (QQ3 Qrb)) (Qaa (Qcy (V:=.bool true) rfl rfl (Qaa (Qac (V:=.bool true) rfl (Qcl rfl (Qac (V:=I6 (QaY alP alK)) rfl (Qcl rfl (Qbk (V:=.bool (decide (QaY alP alK=0))) (V':=.bool true) (QaT rfl rfl ⟨rfl,rfl⟩) (congrArg Value.bool (QQ3 Qfl)) ?_))))))))))))))))))))))))))))))))))))))))))))))))))))))))))))))))))))))))))))))))
 refine Qaa (Qcy (V:=.bool true) rfl rfl (Qaa (Qac (V:=.bool true) rfl (Qcl rfl (Qae QdR rfl (Qcl rfl (QaF (V:=.slice x21.1.1 (((Qah alP alK).ents).length) x21.1.2) Qit hs 10 rfl rfl rfl (Qcl rfl (QaX (n:=((Qah alP alK).ents).length) QbI (hs.rd 8 rfl) (by simp) rfl (Qcl rfl (Qbk (V:=.bool (decide (((((Qah alP alK).ents).length:Nat):Int)=1))) (V':=.bool true) (QaT rfl rfl ⟨rfl,rfl⟩) (congrArg Value.bool (by rw [Qq1];rfl)) (Qaa (Qcy (V:=.bool true) rfl rfl (Qaa (Qac (V:=.bool true) rfl (Qcl rfl (QaI (cs:=((vc vzero)++[(.slice none 0 0:Value),(.slice none 0 0:Value) ])++[(.slice (some ⟨b1,0,none⟩) 1 1:Value) ]++(vc alK)) QeE hs 1 rfl rfl rfl (Qcl rfl (Qbk (V:=.agg (vc (vset (vset vzero 0 0) 1 1)).toArray) (V':=.agg (vc QrD).toArray) (Qby (vs:=[(0,.int .u32 0),(1,.int .u32 1)]) (cs:=vc (vset (vset vzero 0 0) 1 1)) Qig (rfl) rfl ⟨rfl,rfl⟩) rfl (Qcl rfl (Qau (vs:=[.agg (((vc vzero)++[(.slice none 0 0:Value),(.slice none 0 0:Value) ])++[(.slice (some ⟨b1,0,none⟩) 1 1:Value) ]++(vc alK)).toArray,.agg (vc QrD).toArray]) (V:=I6 (QaY alP QrD)) Qq6 rfl rfl ?hc hs fun w25 hs=>?_)))))))))))))))))))))
 case hc=>exact (Qjr _ alP none 0 none 0 (some ⟨b1,0,none⟩) 1 QrD QqW Qhd (by decide) (by decide) (by decide) (Rd.nil _ 7) (Rd.nil _ 2) (hs.rd 0 rfl))
 refine Qcl rfl (Qbk (V:=.bool (decide (QaY alP QrD=11))) (V':=.bool true) (QaT rfl rfl ⟨rfl,rfl⟩) (congrArg Value.bool (QQ3 QrR)) (Qaa (Qcy (V:=.bool true) rfl rfl (Qaa (Qad (V:=.bool true) rfl (Qaf (Qaw ?_)))))))
 refine ⟨_,Qaq (V:=.bool true) Tryz.results10 rfl,(Zr hs ?_)⟩
 rfl
end Tt
end Go.Proofs
namespace Go.Proofs
open Go Go.Vx Go.RowKit
namespace Tt
theorem QnP (w:World) (cu cv tu tw:Int) (ou ov:Bool) (a b:Option Addr) (c e:Nat) (l l2:List Line) (hr:Rd w (.slice a l.length c) 2 (l.map lc)) (hq:Rd w (.slice b l2.length e) 2 (l2.map lc)):Calls Tryz.prog 21 #[.agg #[.int .u16 cu,.slice a l.length c,.bool ou,.int .u32 tu],.agg #[.int .u16 cv,.slice b l2.length e,.bool ov,.int .u32 tw]] w (fun e w'=>e = .returned (.bool (decide (cu=cv)&&(ou == ov)&&decide (tu=tw)&&decide (l=l2)))/\Own w no w' []):=by
 refine Qaj (n:=52) Tryz.func21 rfl Tryz.ntmps21 rfl ?_
 have hs:=Own.start w
 have hn:=hr.sml
 refine Qag (Qab (Qaa (QaR (V:=.agg #[I7 cu,.slice a l.length c,.bool ou,.int .u32 tu]) (cs:=[I7 cu,.slice a l.length c,.bool ou,.int .u32 tu]) rfl rfl hs fun b1 w2 hs=>(Qaa (QaR (V:=.agg #[I7 cv,.slice b l2.length e,.bool ov,.int .u32 tw]) (cs:=[I7 cv,.slice b l2.length e,.bool ov,.int .u32 tw]) rfl rfl hs fun b3 w4 hs=>(Qaa (Qad (V:=.bool false) rfl (Qaf (Qag (Qag (Qbm [some 6,some 7,some 8,some 9,some 10,some 11,some 12,some 13,some 14,some 15,some 16,some 17,some 18,some 19,some 20,some 21,some 22,some 23,some 24,some 25,some 26,some 27,some 28,some 29,some 30,some 31,some 32,some 33] [] [0,1,0,4,15,31,63,127,63,319,1023,2047,4095,8191,16383,8191,40959,131071,262143,524287,1048575,2097151,4194303,1048575,9437183,26214399,67108863,134217727] [pv (Pq b1 (0+0)),pv (I7 cu),pv (Pq b3 (0+0)),pv (I7 cv),pv (.bool (!decide (cu=cv))),pv (.bool (!decide (cu=cv))),pg ((!decide (cu=cv)) == false) (Pq b1 (0+2)),pg ((!decide (cu=cv)) == false) (.bool ou),pg ((!decide (cu=cv)) == false) (Pq b3 (0+2)),pg ((!decide (cu=cv)) == false) (.bool ov),pg ((!decide (cu=cv)) == false) (.bool (!(ou == ov))),pv (.bool ((!decide (cu=cv))||(!(ou == ov)))),pv (.bool ((!decide (cu=cv))||(!(ou == ov)))),pg (((!decide (cu=cv))||(!(ou == ov))) == false) (Pq b1 (0+3)),pg (((!decide (cu=cv))||(!(ou == ov))) == false) (.int .u32 tu),pg (((!decide (cu=cv))||(!(ou == ov))) == false) (Pq b3 (0+3)),pg (((!decide (cu=cv))||(!(ou == ov))) == false) (.int .u32 tw),pg (((!decide (cu=cv))||(!(ou == ov))) == false) (.bool (!decide (tu=tw))),pv (.bool (((!decide (cu=cv))||(!(ou == ov)))||(!decide (tu=tw)))),pv (.bool (((!decide (cu=cv))||(!(ou == ov)))||(!decide (tu=tw)))),pg ((((!decide (cu=cv))||(!(ou == ov)))||(!decide (tu=tw))) == false) (Pq b1 (0+1)),pg ((((!decide (cu=cv))||(!(ou == ov)))||(!decide (tu=tw))) == false) (.slice a l.length c),pg ((((!decide (cu=cv))||(!(ou == ov)))||(!decide (tu=tw))) == false) (I6 ((l.length:Nat):Int)),pg ((((!decide (cu=cv))||(!(ou == ov)))||(!decide (tu=tw))) == false) (Pq b3 (0+1)),pg ((((!decide (cu=cv))||(!(ou == ov)))||(!decide (tu=tw))) == false) (.slice b l2.length e),pg ((((!decide (cu=cv))||(!(ou == ov)))||(!decide (tu=tw))) == false) (I6 ((l2.length:Nat):Int)),pg ((((!decide (cu=cv))||(!(ou == ov)))||(!decide (tu=tw))) == false) (.bool (!decide (((l.length:Nat):Int)=((l2.length:Nat):Int)))),pv (.bool ((((!decide (cu=cv))||(!(ou == ov)))||(!decide (tu=tw)))||(!decide (((l.length:Nat):Int)=((l2.length:Nat):Int)))))] (fun _ _=>_) [27] (by kernel_rfl) hs ⟨?_,?_,?_,?_,?_,?_,?_,?_,?_,?_,?_,?_,?_,?_,?_,?_,?_,?_,?_,?_,?_,?_,?_,?_,?_,?_,?_,?_,trivial⟩ ?_)))))))))))
 ·exact oa [] fun D J w hs=>Qae QhD rfl (Zz hs)
 ·exact oa [0] fun D J w hs=>QaF (V:=.int .u16 cu) Qar hs 0 rfl rfl rfl (Zz hs)
 ·exact oa [] fun D J w hs=>Qae QhD rfl (Zz hs)
 ·exact oa [2] fun D J w hs=>QaF (V:=.int .u16 cv) Qar hs 1 rfl rfl rfl (Zz hs)
 ·exact oa [1,3] fun D J w hs=>Qb7 rfl rfl (Zz hs)
 ·exact oa [4] fun D J w hs=>Qac (V:=.bool (!decide (cu=cv))) rfl (Zz hs)
 ·exact og [5] fun D J w hG hs=>Qae Qdi rfl (Zz hs)
 ·exact oy [5,6] [6] fun D J w hG hs=>QaF (V:=.bool ou) Qnt hs 0 rfl rfl rfl (Zz hs)
 ·exact og [5] fun D J w hG hs=>Qae Qdi rfl (Zz hs)
 ·exact oy [5,8] [8] fun D J w hG hs=>QaF (V:=.bool ov) Qnt hs 1 rfl rfl rfl (Zz hs)
 ·exact oy [5,7,9] [7,9] fun D J w hG hs=>Qs0 Qsd rfl rfl (Zz hs)
 ·exact oa [5,10] fun D J w hs=>QbM (h':=!(ou == ov)) rfl rfl rfl (Zz hs)
 ·exact oa [11] fun D J w hs=>Qac (V:=.bool ((!decide (cu=cv))||(!(ou == ov)))) rfl (Zz hs)
 ·exact og [12] fun D J w hG hs=>Qae Qga rfl (Zz hs)
 ·exact oy [12,13] [13] fun D J w hG hs=>QaF (V:=.int .u32 tu) Qa8 hs 0 rfl rfl rfl (Zz hs)
 ·exact og [12] fun D J w hG hs=>Qae Qga rfl (Zz hs)
 ·exact oy [12,15] [15] fun D J w hG hs=>QaF (V:=.int .u32 tw) Qa8 hs 1 rfl rfl rfl (Zz hs)
 ·exact oy [12,14,16] [14,16] fun D J w hG hs=>Qb7 rfl rfl (Zz hs)
 ·exact oa [12,17] fun D J w hs=>QbM (h':=!decide (tu=tw)) rfl rfl rfl (Zz hs)
 ·exact oa [18] fun D J w hs=>Qac (V:=.bool (((!decide (cu=cv))||(!(ou == ov)))||(!decide (tu=tw)))) rfl (Zz hs)
 ·exact og [19] fun D J w hG hs=>Qae QcS rfl (Zz hs)
 ·exact oy [19,20] [20] fun D J w hG hs=>QaF (V:=.slice a l.length c) QfE hs 0 rfl rfl rfl (Zz hs)
 ·exact oy [19,21] [21] fun D J w hG hs=>QaX (n:=l.length) Qc3 (Rd.own' hr hs) (by simp) rfl (Zz hs)
 ·exact og [19] fun D J w hG hs=>Qae QcS rfl (Zz hs)
 ·exact oy [19,23] [23] fun D J w hG hs=>QaF (V:=.slice b l2.length e) QfE hs 1 rfl rfl rfl (Zz hs)
 ·exact oy [19,24] [24] fun D J w hG hs=>QaX (n:=l2.length) Qc3 (Rd.own' hq hs) (by simp) rfl (Zz hs)
 ·exact oy [19,22,25] [22,25] fun D J w hG hs=>Qb7 rfl rfl (Zz hs)
 ·exact oa [19,26] fun D J w hs=>QbM (h':=!decide (((l.length:Nat):Int)=((l2.length:Nat):Int))) rfl rfl rfl (Zz hs)
 rintro J1 w5 J2 hJ hs
 replace hJ:J2=upd (mix (sq 6 28) J1 _) 33 (.bool ((((!decide (cu=cv))||(!(ou == ov)))||(!decide (tu=tw)))||(!decide (((l.length:Nat):Int)=((l2.length:Nat):Int))))):=hJ
 subst hJ
 refine Qan (t:=(((!decide (cu=cv))||(!(ou == ov)))||(!decide (tu=tw)))||(!decide (((l.length:Nat):Int)=((l2.length:Nat):Int)))) rfl (fun c6=>?_) (fun c6=>?_)
 ·
  refine Qag (Qab (Qaa (Qad (V:=.bool false) rfl (Qaf (Qaw ?_)))))
  refine ⟨_,Qaq (V:=.bool false) Tryz.results21 rfl,(Zr hs (congrArg Value.bool ?_))⟩
  have hc:=c6
  by_cases hll:l=l2
  ·subst hll;simp at hc ⊢;grind
  rw [QQ4 hll,Bool.and_false]
 have c6r:=Qeo c6
 replace c6:=Qet c6
 have c6rr:=Qeo c6
 replace c6:=Qet c6
 have c6rrr:=Qeo c6
 replace c6:=Qet c6
 replace c6:=Qbd c6
 replace c6:=QQ1 c6
 replace c6rrr:=Qbd c6rrr
 replace c6rr:=Qbd c6rr
 replace c6rr:=QQ1 c6rr
 replace c6r:=Qbd c6r
 replace c6r:=QQ1 c6r
 refine Qap (Qag (Qag (Qab (Qaa (Qad (V:=I6 0) rfl (Qaf (Qam (QaA (fun J μ J' w'=>∃ (Jo:Env) (k:Nat),J'=upd (mix ([4,5]++sq 34 18) Jo J) 5 (I6 (k:Int))/\(k<=l.length)/\(∀ j:Nat,j<k->gd l j=gd l2 j)/\μ=l.length-k/\Own w no w' [blk b1 [I7 cu,.slice a l.length c,.bool ou,.int .u32 tu] 49,blk b3 [I7 cv,.slice b l2.length e,.bool ov,.int .u32 tw] 49]) ?_ ?_))))))))
 ·exact ⟨_,_,0,Qai (Qao (ds:=([4,5]++sq 34 18)) (Agr.refl _ _)) rfl,(by omega),(fun j hj=>absurd hj (Nat.not_lt_zero j)),rfl,hs⟩
 rintro μ J' w7 ⟨Jo,k,rfl,hk,heq,rfl,hs⟩
 refine Qag (Qag (Qab (Qaa (Qac (V:=I6 (k:Int)) rfl (Qaa (Qae QcS rfl (Qaa (QaF (V:=.slice a l.length c) QfE hs 0 rfl rfl rfl (Qaa (QaX (n:=l.length) Qc3 (Rd.own' hr hs) (by simp) rfl (Qaa (QaS rfl rfl (Qaf (Qan (t:=decide ((k:Int)<((l.length:Nat):Int))) rfl (fun c8=>?_) (fun c8=>?_)))))))))))))))
 ·
  replace c8:=QQ1 c8
  refine Qap (Qag (Qam (Qag (QaJ HM [some 41,some 42,some 43,some 44,some 45,some 46,some 47,some 48,some 49,some 50,some 51] [] [0,1,0,7,15,0,32,0,224,480,1023] [pv (Pq b1 (0+1)),pv (.slice a l.length c),pv (I6 (k:Int)),pv (.pointer (some ⟨bkS (.slice a l.length c),ofS (.slice a l.length c)+(k:Int).toNat*2,none⟩)),pv (.agg (lc (gd l k)).toArray),pv (Pq b3 (0+1)),pv (.slice b l2.length e),pv (I6 (k:Int)),pv (.pointer (some ⟨bkS (.slice b l2.length e),ofS (.slice b l2.length e)+(k:Int).toNat*2,none⟩)),pv (.agg (lc (gd l2 k)).toArray),pv (.bool (!decide (gd l k=gd l2 k)))] (fun _ _=>_) [10] (by kernel_rfl) hs ⟨?_,?_,?_,?_,?_,?_,?_,?_,?_,?_,?_,trivial⟩ ?_))))
  ·exact oa [] fun D J w hs=>Qae QcS rfl (Zz hs)
  ·exact oa [0] fun D J w hs=>QaF (V:=.slice a l.length c) QfE hs 0 rfl rfl rfl (Zz hs)
  ·exact oa [] fun D J w hs=>Qac (V:=.int .i64 (k:Int)) rfl (Zz hs)
  ·exact oa [1,2] fun D J w hs=>Qax Qc3 Qcf.1 (Rd.own' hr hs) rfl rfl (by omega) (by rw [QQ6];omega) (Zz hs)
  ·exact oa [3] fun D J w hs=>QaV (j:=0) (vs:=lc (gd l k)) k Qcf (Rd.own' hr hs) (QaW (by omega)) rfl rfl rfl (by omega) (Zz hs)
  ·exact oa [] fun D J w hs=>Qae QcS rfl (Zz hs)
  ·exact oa [5] fun D J w hs=>QaF (V:=.slice b l2.length e) QfE hs 1 rfl rfl rfl (Zz hs)
  ·exact oa [] fun D J w hs=>Qac (V:=.int .i64 (k:Int)) rfl (Zz hs)
  ·exact oa [6,7] fun D J w hs=>Qax Qc3 Qcf.1 (Rd.own' hq hs) rfl rfl (by omega) (by rw [QQ6];omega) (Zz hs)
  ·exact oa [8] fun D J w hs=>QaV (j:=0) (vs:=lc (gd l2 k)) k Qcf (Rd.own' hq hs) (QaW (by omega)) rfl rfl rfl (by omega) (Zz hs)
  ·exact oa [4,9] fun D J w hs=>QoR (xs:=lc (gd l k)) (ys:=lc (gd l2 k)) Tryz.eqGuardType127 (QtA (gd l k) (gd l2 k)) rfl rfl rfl (Zz hs)
  rintro J1 w9 J2 hJ hs
  replace hJ:J2=upd (mix (sq 41 11) J1 _) 51 (.bool (!decide (gd l k=gd l2 k))):=hJ
  subst hJ
  refine Qan (t:=!decide (gd l k=gd l2 k)) rfl (fun c10=>?_) (fun c10=>?_)
  ·
   replace c10:=Qbs c10
   replace c10:=QQ2 c10
   refine Qag (Qab (Qaa (Qad (V:=.bool false) rfl (Qaf (Qaw ?_)))))
   refine ⟨_,Qaq (V:=.bool false) Tryz.results21 rfl,(Zr hs (congrArg Value.bool ?_))⟩
   have hne:¬l=l2:=fun e=>by subst e;exact c10 rfl
   rw [QQ4 hne,Bool.and_false]
  replace c10:=Qbd c10
  replace c10:=QQ1 c10
  refine Qap (Qab (Qaa (Qac (V:=I6 (k:Int)) rfl (Qaa (QaD (a:=(k:Int)) (b:=1) (c:=(k:Int)+1) rfl rfl (QbK (by omega) (by omega)) (Qaa (Qad (V:=I6 ((k:Int)+1)) rfl (Qaf ?_))))))))
  refine ⟨_,?_,_,k+1,Qai (Qao (ds:=([4,5]++sq 34 18)) (by repeat (first|exact Agr.refl _ _|refine Agr.upd ?_ rfl|refine Agr.mix ?_ rfl))) rfl,(by omega),(Qhs heq c10),rfl,hs.take 2⟩
  omega
 replace c8:=QQ2 c8
 refine QaH (Qag (Qab (Qaa (Qad (V:=.bool true) rfl (Qaf (Qaw ?_))))))
 refine ⟨_,Qaq (V:=.bool true) Tryz.results21 rfl,(Zr hs (congrArg Value.bool ?_))⟩
 have hll:=Qgp (l:=l) (m:=l2) (by omega) fun j hj=>heq j (by omega)
 rw [QQ3 hll,QQ3 c6,QQ3 c6rr,c6rrr];rfl
end Tt
end Go.Proofs
namespace Go.Proofs
open Go Go.Vx Go.RowKit
namespace Tt
theorem cutsStates_ok (w:World) (p:Pst) (a1:Option Addr) (c1:Nat) (a2:Option Addr) (c2:Nat) (a3:Option Addr) (c3:Nat) (cut:Vec) (n:Int) (hsortE:QgW Tryz.prog 48 49 cec 106 7 QjK) (hsortU:QgX Tryz.prog 134 .u16 32) (hok:Qdw p) (hcut:QbX cut) (hr1:Rd w (.slice a1 p.base.ents.length c1) 7 (p.base.ents.map cec)) (hr2:Rd w (.slice a2 p.base.ticks.length c2) 2 (p.base.ticks.map lsc)) (hr3:Rd w (.slice a3 p.ops.length c3) 23 (p.ops.map oc)):Calls Tryz.prog 3 #[.agg (((vc p.base.known)++[(.slice a1 p.base.ents.length c1:Value),(.slice a2 p.base.ticks.length c2:Value) ])++[(.slice a3 p.ops.length c3:Value) ]++(vc p.known)).toArray,.agg (vc cut).toArray,.int .u16 n] w (fun e w'=>e = .returned (.bool true)/\Own w no w' []):=by
 refine Qaj (n:=77) Tryz.func3 rfl Tryz.ntmps3 rfl ?_
 have hs:=Own.start w
 refine Qag (Qab (Qaa (QaR (V:=.agg (((vc p.base.known)++[(.slice a1 p.base.ents.length c1:Value),(.slice a2 p.base.ticks.length c2:Value) ])++[(.slice a3 p.ops.length c3:Value) ]++(vc p.known)).toArray) (cs:=((vc p.base.known)++[(.slice a1 p.base.ents.length c1:Value),(.slice a2 p.base.ticks.length c2:Value) ])++[(.slice a3 p.ops.length c3:Value) ]++(vc p.known)) rfl rfl hs fun b1 w2 hs=>(Qaa (QaR (V:=.agg (vc cut).toArray) (cs:=vc cut) rfl rfl hs fun b3 w4 hs=>(Qaa (Qad (V:=.bool false) rfl (Qaf (Qag (Qag (Qab (Qaa (Qau (vs:=[]) (V:=.bool true) Qui rfl rfl ?hc hs fun w5 hs=>?_)))))))))))))
 case hc=>exact (QkH _ hsortE hsortU)
 refine Qaa (Qbx rfl (Qaf (Qcw rfl ?_)))
 refine Qap (Qag (Qag (Qab (Qaa (QaI (cs:=((vc p.base.known)++[(.slice a1 p.base.ents.length c1:Value),(.slice a2 p.base.ticks.length c2:Value) ])++[(.slice a3 p.ops.length c3:Value) ]++(vc p.known)) QgQ hs 0 rfl rfl rfl (Qaa (Qau (vs:=[.agg (((vc p.base.known)++[(.slice a1 p.base.ents.length c1:Value),(.slice a2 p.base.ticks.length c2:Value) ])++[(.slice a3 p.ops.length c3:Value) ]++(vc p.known)).toArray]) (V:=.bool (QhQ p.base&&decide (((p.ops.length:Nat):Int)<=30))) Quw rfl rfl ?hc hs fun w6 hs=>?_)))))))
 case hc=>exact (Qql _ p a1 c1 a2 c2 a3 c3 (Rd.own' hr1 hs) (Rd.own' hr2 hs) (Rd.own' hr3 hs))
 refine Qaa (Qbx rfl (Qaf (Qan (t:=!(QhQ p.base&&decide (((p.ops.length:Nat):Int)<=30))) rfl (fun c7=>?_) (fun c7=>?_))))
 ·
  replace c7:=Qbs c7
  refine Qag (Qab (Qaa (Qad (V:=.bool true) rfl (Qaf (Qaw ?_)))))
  refine ⟨_,Qaq (V:=.bool true) Tryz.results3 rfl,(Zr hs ?_)⟩
  rfl
 replace c7:=Qbd c7
 have c7r:=QbG c7
 replace c7:=QbC c7
 replace c7r:=QQ1 c7r
 refine Qap (Qag ?_)
 have ⟨hf1,hf2⟩:=Qta c7
 have hsl:=QcG p cut
 replace hs:=hs.more emp trivial
 replace hs:=hs.more emp trivial
 replace hs:=hs.more emp trivial
 replace hs:=hs.more emp trivial
 replace hs:=hs.more emp trivial
 refine QaJ HM [some 21,some 22,some 23,some 24,some 20,some 25,some 26,some 7,none,some 8] [[],[22],[],[24],[24],[24],[],[7]] [0,1,0,7,15,31,31,0,191,511] [pv (.agg (((vc p.base.known)++[(.slice a1 p.base.ents.length c1:Value),(.slice a2 p.base.ticks.length c2:Value) ])++[(.slice a3 p.ops.length c3:Value) ]++(vc p.known)).toArray),(true,fun J=>.agg (((vc p.base.known)++[(.slice (aOf (Qa2 (J 22) 16)) p.base.ents.length (cOf (Qa2 (J 22) 16)):Value),(.slice (aOf (Qa2 (J 22) 17)) p.base.ticks.length (cOf (Qa2 (J 22) 17)):Value) ])++[(.slice a3 p.ops.length c3:Value) ]++(vc p.known)).toArray),pv (.agg (vc cut).toArray),(true,fun J=>.tuple #[.agg ((vc ((Qah p cut).known))++[(.slice (aOf (QbU (J 24) 0 16)) (((Qah p cut).ents).length) (cOf (QbU (J 24) 0 16)):Value),(.slice (aOf (QbU (J 24) 0 17)) (((Qah p cut).ticks).length) (cOf (QbU (J 24) 0 17)):Value) ]).toArray,I6 (QaY p cut)]),(true,fun J=>.tuple #[.agg ((vc ((Qah p cut).known))++[(.slice (aOf (QbU (J 24) 0 16)) (((Qah p cut).ents).length) (cOf (QbU (J 24) 0 16)):Value),(.slice (aOf (QbU (J 24) 0 17)) (((Qah p cut).ticks).length) (cOf (QbU (J 24) 0 17)):Value) ]).toArray,I6 (QaY p cut)]),(true,fun J=>.agg ((vc ((Qah p cut).known))++[(.slice (aOf (QbU (J 24) 0 16)) (((Qah p cut).ents).length) (cOf (QbU (J 24) 0 16)):Value),(.slice (aOf (QbU (J 24) 0 17)) (((Qah p cut).ticks).length) (cOf (QbU (J 24) 0 17)):Value) ]).toArray),pv (I6 (QaY p cut)),(true,fun J=>.pointer (some ⟨(bOf (J 7)),0,none⟩)),pn,pv (I6 (QaY p cut))] (fun D J=>[blk b1 (((vc p.base.known)++[(.slice a1 p.base.ents.length c1:Value),(.slice a2 p.base.ticks.length c2:Value) ])++[(.slice a3 p.ops.length c3:Value) ]++(vc p.known)) 31,blk b3 (vc cut) 24,cond (D 1) (row (.slice (aOf (Qa2 (J 22) 16)) p.base.ents.length (cOf (Qa2 (J 22) 16))) (p.base.ents.map cec) 106 7) (emp),cond (D 1) (row (.slice (aOf (Qa2 (J 22) 17)) p.base.ticks.length (cOf (Qa2 (J 22) 17))) (p.base.ticks.map lsc) 102 2) (emp),cond (D 3) (row (.slice (aOf (QbU (J 24) 0 16)) (((Qah p cut).ents).length) (cOf (QbU (J 24) 0 16))) (((Qah p cut).ents).map cec) 106 7) (emp),cond (D 3) (row (.slice (aOf (QbU (J 24) 0 17)) (((Qah p cut).ticks).length) (cOf (QbU (J 24) 0 17))) (((Qah p cut).ticks).map lsc) 102 2) (emp),cond (D 8) (blk (bOf (J 7)) ((vc ((Qah p cut).known))++[(.slice (aOf (QbU (J 24) 0 16)) (((Qah p cut).ents).length) (cOf (QbU (J 24) 0 16)):Value),(.slice (aOf (QbU (J 24) 0 17)) (((Qah p cut).ticks).length) (cOf (QbU (J 24) 0 17)):Value) ]) 38) (cond (D 7) (blk (bOf (J 7)) ((vc vzero)++[(.slice none 0 0:Value),(.slice none 0 0:Value) ]) 38) (emp))]) [9,7] (by kernel_rfl) hs ⟨?_,?_,?_,?_,?_,?_,?_,?_,?_,?_,trivial⟩ ?_
 ·exact oa [] fun D J w hs=>QaI (cs:=((vc p.base.known)++[(.slice a1 p.base.ents.length c1:Value),(.slice a2 p.base.ticks.length c2:Value) ])++[(.slice a3 p.ops.length c3:Value) ]++(vc p.known)) QgQ hs 0 rfl rfl rfl (Zz hs)
 ·exact oa [0] fun D J w hs=>Qbf (α:=(Option Addr × Nat) × (Option Addr × Nat)) (vs:=[.agg (((vc p.base.known)++[(.slice a1 p.base.ents.length c1:Value),(.slice a2 p.base.ticks.length c2:Value) ])++[(.slice a3 p.ops.length c3:Value) ]++(vc p.known)).toArray]) (V:=fun y=>.agg (((vc p.base.known)++[(.slice y.1.1 p.base.ents.length y.1.2:Value),(.slice y.2.1 p.base.ticks.length y.2.2:Value) ])++[(.slice a3 p.ops.length c3:Value) ]++(vc p.known)).toArray) (Lo:=fun y=>[row (.slice y.1.1 p.base.ents.length y.1.2) (p.base.ents.map cec) 106 7,row (.slice y.2.1 p.base.ticks.length y.2.2) (p.base.ticks.map lsc) 102 2]) (F:=fun _ _=>True) QqQ rfl rfl (Qfq _ p a1 c1 a2 c2 a3 c3 hok (by omega) (by omega) (by omega) (Rd.own' hr1 hs) (Rd.own' hr2 hs) (Rd.own' hr3 hs)) hs fun _ _ hs _=>⟨rfl,hs.put2 2 3 (QQ8 rfl) (QQ8 rfl)⟩
 ·exact oa [] fun D J w hs=>QaI (cs:=vc cut) Qbt hs 1 rfl rfl rfl (Zz hs)
 ·exact ob [1,2] [8] rfl rfl fun D J w hs=>Qbf (α:=(Option Addr × Nat) × (Option Addr × Nat)) (vs:=[.agg (((vc p.base.known)++[(.slice (aOf (Qa2 (J 22) 16)) p.base.ents.length (cOf (Qa2 (J 22) 16)):Value),(.slice (aOf (Qa2 (J 22) 17)) p.base.ticks.length (cOf (Qa2 (J 22) 17)):Value) ])++[(.slice a3 p.ops.length c3:Value) ]++(vc p.known)).toArray,.agg (vc cut).toArray]) (V:=fun x:(Option Addr × Nat) × (Option Addr × Nat)=>.tuple #[.agg (vc (Qah p cut).known++[(.slice x.1.1 ((Qah p cut).ents).length x.1.2:Value),(.slice x.2.1 ((Qah p cut).ticks).length x.2.2:Value)]).toArray,I6 (QaY p cut)]) (Lo:=fun x=>[row (.slice x.1.1 ((Qah p cut).ents).length x.1.2) (((Qah p cut).ents).map cec) 106 7,row (.slice x.2.1 ((Qah p cut).ticks).length x.2.2) (((Qah p cut).ticks).map lsc) 102 2]) (F:=fun _ _=>True) QkA rfl rfl (Qdx _ p (aOf (Qa2 (J 22) 16)) (cOf (Qa2 (J 22) 16)) (aOf (Qa2 (J 22) 17)) (cOf (Qa2 (J 22) 17)) a3 c3 cut hcut hsortE hsortU hok (by omega) (by omega) (by omega) (hs.rd 2 rfl) (hs.rd 3 rfl) (Rd.own' hr3 hs)) hs fun _ _ hs _=>⟨rfl,hs.put2 4 5 (QQ8 rfl) (QQ8 rfl)⟩
 ·exact oa [3] fun D J w hs=>Qac (V:=.tuple #[.agg ((vc ((Qah p cut).known))++[(.slice (aOf (QbU (J 24) 0 16)) (((Qah p cut).ents).length) (cOf (QbU (J 24) 0 16)):Value),(.slice (aOf (QbU (J 24) 0 17)) (((Qah p cut).ticks).length) (cOf (QbU (J 24) 0 17)):Value) ]).toArray,.int .i64 (QaY p cut)]) rfl (Zz hs)
 ·exact oa [4] fun D J w hs=>Qaz (V:=.agg ((vc ((Qah p cut).known))++[(.slice (aOf (QbU (J 24) 0 16)) (((Qah p cut).ents).length) (cOf (QbU (J 24) 0 16)):Value),(.slice (aOf (QbU (J 24) 0 17)) (((Qah p cut).ticks).length) (cOf (QbU (J 24) 0 17)):Value) ]).toArray) rfl rfl (Zz hs)
 ·exact oa [4] fun D J w hs=>Qaz (V:=.int .i64 (QaY p cut)) rfl rfl (Zz hs)
 ·exact ob [] [8] rfl rfl fun D J w hs=>QaK (cs:=(vc vzero)++[(.slice none 0 0:Value),(.slice none 0 0:Value) ]) QgU rfl hs fun _ _ hs=>⟨rfl,hs.put 6 (QQ8 rfl)⟩
 ·exact oa [5,7] fun D J w hs=>Qcq (V:=.agg ((vc ((Qah p cut).known))++[(.slice (aOf (QbU (J 24) 0 16)) (((Qah p cut).ents).length) (cOf (QbU (J 24) 0 16)):Value),(.slice (aOf (QbU (J 24) 0 17)) (((Qah p cut).ticks).length) (cOf (QbU (J 24) 0 17)):Value) ]).toArray) (vs:=(vc ((Qah p cut).known))++[(.slice (aOf (QbU (J 24) 0 16)) (((Qah p cut).ents).length) (cOf (QbU (J 24) 0 16)):Value),(.slice (aOf (QbU (J 24) 0 17)) (((Qah p cut).ticks).length) (cOf (QbU (J 24) 0 17)):Value) ]) (cs':=(vc ((Qah p cut).known))++[(.slice (aOf (QbU (J 24) 0 16)) (((Qah p cut).ents).length) (cOf (QbU (J 24) 0 16)):Value),(.slice (aOf (QbU (J 24) 0 17)) (((Qah p cut).ticks).length) (cOf (QbU (J 24) 0 17)):Value) ]) QcD.1 hs 6 rfl rfl rfl rfl rfl (QQ8 rfl) (QbB (Qcd _) (Qat rfl (Qat rfl Qa9))) (Qay rfl) fun _ hs=>⟨trivial,hs⟩
 ·exact oa [6] fun D J w hs=>Qad (V:=.int .i64 (QaY p cut)) rfl (Zz hs)
 rintro J1 w12 J2 hJ hs
 replace hJ:J2=upd (upd (mix [21,22,23,24,20,25,26,7,8] J1 _) 7 (.pointer (some ⟨(bOf (J1 7)),0,none⟩))) 8 (I6 (QaY p cut)):=hJ
 replace hs:Own w no w12 [blk b1 (((vc p.base.known)++[(.slice a1 p.base.ents.length c1:Value),(.slice a2 p.base.ticks.length c2:Value) ])++[(.slice a3 p.ops.length c3:Value) ]++(vc p.known)) 31,blk b3 (vc cut) 24,row (.slice (aOf (Qa2 (J1 22) 16)) p.base.ents.length (cOf (Qa2 (J1 22) 16))) (p.base.ents.map cec) 106 7,row (.slice (aOf (Qa2 (J1 22) 17)) p.base.ticks.length (cOf (Qa2 (J1 22) 17))) (p.base.ticks.map lsc) 102 2,row (.slice (aOf (QbU (J1 24) 0 16)) (((Qah p cut).ents).length) (cOf (QbU (J1 24) 0 16))) (((Qah p cut).ents).map cec) 106 7,row (.slice (aOf (QbU (J1 24) 0 17)) (((Qah p cut).ticks).length) (cOf (QbU (J1 24) 0 17))) (((Qah p cut).ticks).map lsc) 102 2,blk (bOf (J1 7)) ((vc ((Qah p cut).known))++[(.slice (aOf (QbU (J1 24) 0 16)) (((Qah p cut).ents).length) (cOf (QbU (J1 24) 0 16)):Value),(.slice (aOf (QbU (J1 24) 0 17)) (((Qah p cut).ticks).length) (cOf (QbU (J1 24) 0 17)):Value) ]) 38]:=hs
 generalize (aOf (Qa2 (J1 22) 16))=na13 at hs
 generalize (cOf (Qa2 (J1 22) 16))=nc14 at hs
 generalize (aOf (Qa2 (J1 22) 17))=na15 at hs
 generalize (cOf (Qa2 (J1 22) 17))=nc16 at hs
 generalize (aOf (QbU (J1 24) 0 16))=na17 at hs
 generalize (cOf (QbU (J1 24) 0 16))=nc18 at hs
 generalize (aOf (QbU (J1 24) 0 17))=na19 at hs
 generalize (cOf (QbU (J1 24) 0 17))=nc20 at hs
 generalize (bOf (J1 7))=b21 at hJ hs
 subst hJ
 refine Qag (Qab (Qaa (QaI (cs:=((vc p.base.known)++[(.slice a1 p.base.ents.length c1:Value),(.slice a2 p.base.ticks.length c2:Value) ])++[(.slice a3 p.ops.length c3:Value) ]++(vc p.known)) QgQ hs 0 rfl rfl rfl (Qaa (QaI (cs:=vc cut) Qbt hs 1 rfl rfl rfl (Qaa (Qbf (α:=((Option Addr × Nat) × (Option Addr × Nat)) × Bool) (vs:=[.agg (((vc p.base.known)++[(.slice a1 p.base.ents.length c1:Value),(.slice a2 p.base.ticks.length c2:Value) ])++[(.slice a3 p.ops.length c3:Value) ]++(vc p.known)).toArray,.agg (vc cut).toArray]) (V:=fun y=>.tuple #[.agg (vc (Qah p cut).known++[(.slice y.1.1.1 ((Qah p cut).ents).length y.1.1.2:Value),(.slice y.1.2.1 ((Qah p cut).ticks).length y.1.2.2:Value)]).toArray,I6 (QaY p cut)]) (Lo:=fun y=>[row (.slice y.1.1.1 ((Qah p cut).ents).length y.1.1.2) ((Qah p cut).ents.map cec) 119 7,cond y.2 emp (row (.slice y.1.2.1 ((Qah p cut).ticks).length y.1.2.2) ((Qah p cut).ticks.map lsc) 125 2)]) (F:=fun y _=>(y.2=true->y.1.2=(a2,c2)/\(Qah p cut).ticks=p.base.ticks)) Qsv rfl rfl ?hc hs fun x22 w23 hs hF24=>?_)))))))
 case hc=>exact (QiI _ p a1 c1 a2 c2 a3 c3 cut hcut hok (by omega) (by omega) (by omega) (Rd.own' hr1 hs) (Rd.own' hr2 hs) (Rd.own' hr3 hs))
 have hrz25:x22.2=true->Rd w (.slice x22.1.2.1 ((Qah p cut).ticks).length x22.1.2.2) 2 ((Qah p cut).ticks.map lsc):=fun h=>by
  obtain ⟨e1,e2⟩:=hF24 h
  rw [Prod.ext_iff] at e1
  rw [e1.1,e1.2,e2];exact hr2
 refine Qaa (Qac (V:=.tuple #[.agg ((vc ((Qah p cut).known))++[(.slice x22.1.1.1 (((Qah p cut).ents).length) x22.1.1.2:Value),(.slice x22.1.2.1 (((Qah p cut).ticks).length) x22.1.2.2:Value) ]).toArray,I6 (QaY p cut)]) rfl (Qaa (Qaz (V:=.agg ((vc ((Qah p cut).known))++[(.slice x22.1.1.1 (((Qah p cut).ents).length) x22.1.1.2:Value),(.slice x22.1.2.1 (((Qah p cut).ticks).length) x22.1.2.2:Value) ]).toArray) rfl rfl (Qaa (Qaz (V:=I6 (QaY p cut)) rfl rfl (Qaa (QaK (cs:=(vc vzero)++[(.slice none 0 0:Value),(.slice none 0 0:Value) ]) Qmn rfl hs fun b26 w27 hs=>(Qaa (Qcq (V:=.agg ((vc ((Qah p cut).known))++[(.slice x22.1.1.1 (((Qah p cut).ents).length) x22.1.1.2:Value),(.slice x22.1.2.1 (((Qah p cut).ticks).length) x22.1.2.2:Value) ]).toArray) (vs:=(vc ((Qah p cut).known))++[(.slice x22.1.1.1 (((Qah p cut).ents).length) x22.1.1.2:Value),(.slice x22.1.2.1 (((Qah p cut).ticks).length) x22.1.2.2:Value) ]) (cs':=(vc ((Qah p cut).known))++[(.slice x22.1.1.1 (((Qah p cut).ents).length) x22.1.1.2:Value),(.slice x22.1.2.1 (((Qah p cut).ticks).length) x22.1.2.2:Value) ]) Qdj.1 hs 9 rfl rfl rfl rfl rfl (QQ8 rfl) (QbB (Qcd _) (Qat rfl (Qat rfl Qa9))) (Qay rfl) fun w28 hs=>?_)))))))))
 replace hs:Own w no w28 [blk b1 (((vc p.base.known)++[(.slice a1 p.base.ents.length c1:Value),(.slice a2 p.base.ticks.length c2:Value) ])++[(.slice a3 p.ops.length c3:Value) ]++(vc p.known)) 31,blk b3 (vc cut) 24,row (.slice na13 p.base.ents.length nc14) (p.base.ents.map cec) 106 7,row (.slice na15 p.base.ticks.length nc16) (p.base.ticks.map lsc) 102 2,row (.slice na17 (((Qah p cut).ents).length) nc18) (((Qah p cut).ents).map cec) 106 7,row (.slice na19 (((Qah p cut).ticks).length) nc20) (((Qah p cut).ticks).map lsc) 102 2,blk b21 ((vc ((Qah p cut).known))++[(.slice na17 (((Qah p cut).ents).length) nc18:Value),(.slice na19 (((Qah p cut).ticks).length) nc20:Value) ]) 38,row (.slice x22.1.1.1 (((Qah p cut).ents).length) x22.1.1.2) (((Qah p cut).ents).map cec) 119 7,cond x22.2 emp (row (.slice x22.1.2.1 (((Qah p cut).ticks).length) x22.1.2.2) (((Qah p cut).ticks).map lsc) 125 2),blk b26 ((vc ((Qah p cut).known))++[(.slice x22.1.1.1 (((Qah p cut).ents).length) x22.1.1.2:Value),(.slice x22.1.2.1 (((Qah p cut).ticks).length) x22.1.2.2:Value) ]) 28]:=hs
 refine Qaa (Qad (V:=I6 (QaY p cut)) rfl (Qaf (Qag ?_)))
 replace hs:=hs.more emp trivial
 replace hs:=hs.more emp trivial
 replace hs:=hs.more emp trivial
 replace hs:=hs.more emp trivial
 refine QaJ HM [some 34,some 35,some 36,some 37,some 38,some 33,some 39,some 40,some 11,none,some 12] [[],[35],[],[],[38],[38],[38],[],[11]] [0,1,0,0,15,31,63,63,0,383,1023] [pv (.agg (((vc p.base.known)++[(.slice a1 p.base.ents.length c1:Value),(.slice a2 p.base.ticks.length c2:Value) ])++[(.slice a3 p.ops.length c3:Value) ]++(vc p.known)).toArray),(true,fun J=>.agg (((vc p.base.known)++[(.slice (aOf (Qa2 (J 35) 16)) p.base.ents.length (cOf (Qa2 (J 35) 16)):Value),(.slice (aOf (Qa2 (J 35) 17)) p.base.ticks.length (cOf (Qa2 (J 35) 17)):Value) ])++[(.slice a3 p.ops.length c3:Value) ]++(vc p.known)).toArray),pv (.agg (vc cut).toArray),pv (I7 n),(true,fun J=>.tuple #[.agg #[I7 ((Qav p cut n).cart),.slice (aOf (QbU (J 38) 0 1)) (((Qav p cut n).lines).length) (cOf (QbU (J 38) 0 1)),.bool ((Qav p cut n).out),.int .u32 ((Qav p cut n).tick)],I6 (QaY p cut)]),(true,fun J=>.tuple #[.agg #[I7 ((Qav p cut n).cart),.slice (aOf (QbU (J 38) 0 1)) (((Qav p cut n).lines).length) (cOf (QbU (J 38) 0 1)),.bool ((Qav p cut n).out),.int .u32 ((Qav p cut n).tick)],I6 (QaY p cut)]),(true,fun J=>.agg #[I7 ((Qav p cut n).cart),.slice (aOf (QbU (J 38) 0 1)) (((Qav p cut n).lines).length) (cOf (QbU (J 38) 0 1)),.bool ((Qav p cut n).out),.int .u32 ((Qav p cut n).tick)]),pv (I6 (QaY p cut)),(true,fun J=>.pointer (some ⟨(bOf (J 11)),0,none⟩)),pn,pv (I6 (QaY p cut))] (fun D J=>[blk b1 (((vc p.base.known)++[(.slice a1 p.base.ents.length c1:Value),(.slice a2 p.base.ticks.length c2:Value) ])++[(.slice a3 p.ops.length c3:Value) ]++(vc p.known)) 31,blk b3 (vc cut) 24,row (.slice na13 p.base.ents.length nc14) (p.base.ents.map cec) 106 7,row (.slice na15 p.base.ticks.length nc16) (p.base.ticks.map lsc) 102 2,row (.slice na17 (((Qah p cut).ents).length) nc18) (((Qah p cut).ents).map cec) 106 7,row (.slice na19 (((Qah p cut).ticks).length) nc20) (((Qah p cut).ticks).map lsc) 102 2,blk b21 ((vc ((Qah p cut).known))++[(.slice na17 (((Qah p cut).ents).length) nc18:Value),(.slice na19 (((Qah p cut).ticks).length) nc20:Value) ]) 38,row (.slice x22.1.1.1 (((Qah p cut).ents).length) x22.1.1.2) (((Qah p cut).ents).map cec) 119 7,cond x22.2 emp (row (.slice x22.1.2.1 (((Qah p cut).ticks).length) x22.1.2.2) (((Qah p cut).ticks).map lsc) 125 2),blk b26 ((vc ((Qah p cut).known))++[(.slice x22.1.1.1 (((Qah p cut).ents).length) x22.1.1.2:Value),(.slice x22.1.2.1 (((Qah p cut).ticks).length) x22.1.2.2:Value) ]) 28,cond (D 1) (row (.slice (aOf (Qa2 (J 35) 16)) p.base.ents.length (cOf (Qa2 (J 35) 16))) (p.base.ents.map cec) 106 7) (emp),cond (D 1) (row (.slice (aOf (Qa2 (J 35) 17)) p.base.ticks.length (cOf (Qa2 (J 35) 17))) (p.base.ticks.map lsc) 102 2) (emp),cond (D 4) (row (.slice (aOf (QbU (J 38) 0 1)) (((Qav p cut n).lines).length) (cOf (QbU (J 38) 0 1))) (((Qav p cut n).lines).map lc) 127 2) (emp),cond (D 9) (blk (bOf (J 11)) [I7 ((Qav p cut n).cart),.slice (aOf (QbU (J 38) 0 1)) (((Qav p cut n).lines).length) (cOf (QbU (J 38) 0 1)),.bool ((Qav p cut n).out),.int .u32 ((Qav p cut n).tick)] 49) (cond (D 8) (blk (bOf (J 11)) [I7 0,.slice none 0 0,.bool false,.int .u32 0] 49) (emp))]) [10,8] (by kernel_rfl) hs ⟨?_,?_,?_,?_,?_,?_,?_,?_,?_,?_,?_,trivial⟩ ?_
 ·exact oa [] fun D J w hs=>QaI (cs:=((vc p.base.known)++[(.slice a1 p.base.ents.length c1:Value),(.slice a2 p.base.ticks.length c2:Value) ])++[(.slice a3 p.ops.length c3:Value) ]++(vc p.known)) QgQ hs 0 rfl rfl rfl (Zz hs)
 ·exact oa [0] fun D J w hs=>Qbf (α:=(Option Addr × Nat) × (Option Addr × Nat)) (vs:=[.agg (((vc p.base.known)++[(.slice a1 p.base.ents.length c1:Value),(.slice a2 p.base.ticks.length c2:Value) ])++[(.slice a3 p.ops.length c3:Value) ]++(vc p.known)).toArray]) (V:=fun y=>.agg (((vc p.base.known)++[(.slice y.1.1 p.base.ents.length y.1.2:Value),(.slice y.2.1 p.base.ticks.length y.2.2:Value) ])++[(.slice a3 p.ops.length c3:Value) ]++(vc p.known)).toArray) (Lo:=fun y=>[row (.slice y.1.1 p.base.ents.length y.1.2) (p.base.ents.map cec) 106 7,row (.slice y.2.1 p.base.ticks.length y.2.2) (p.base.ticks.map lsc) 102 2]) (F:=fun _ _=>True) QqQ rfl rfl (Qfq _ p a1 c1 a2 c2 a3 c3 hok (by omega) (by omega) (by omega) (Rd.own' hr1 hs) (Rd.own' hr2 hs) (Rd.own' hr3 hs)) hs fun _ _ hs _=>⟨rfl,hs.put2 10 11 (QQ8 rfl) (QQ8 rfl)⟩
 ·exact oa [] fun D J w hs=>QaI (cs:=vc cut) Qbt hs 1 rfl rfl rfl (Zz hs)
 ·exact oa [] fun D J w hs=>Qac (V:=.int .u16 n) rfl (Zz hs)
 ·exact ob [1,2,3] [9] rfl rfl fun D J w hs=>Qbf (α:=Option Addr × Nat) (vs:=[.agg (((vc p.base.known)++[(.slice (aOf (Qa2 (J 35) 16)) p.base.ents.length (cOf (Qa2 (J 35) 16)):Value),(.slice (aOf (Qa2 (J 35) 17)) p.base.ticks.length (cOf (Qa2 (J 35) 17)):Value) ])++[(.slice a3 p.ops.length c3:Value) ]++(vc p.known)).toArray,.agg (vc cut).toArray,I7 n]) (V:=fun x=>.tuple #[.agg #[I7 ((Qav p cut n).cart),.slice x.1 (((Qav p cut n).lines).length) x.2,.bool ((Qav p cut n).out),.int .u32 ((Qav p cut n).tick)],I6 (QaY p cut)]) (Lo:=fun x=>[row (.slice x.1 ((Qav p cut n).lines).length x.2) (((Qav p cut n).lines).map lc) 127 2]) (F:=fun _ _=>True) Qqm rfl rfl (QhW _ p (aOf (Qa2 (J 35) 16)) (cOf (Qa2 (J 35) 16)) (aOf (Qa2 (J 35) 17)) (cOf (Qa2 (J 35) 17)) a3 c3 cut hcut n hsortE hsortU hok (by omega) (by omega) (by omega) (hs.rd 10 rfl) (hs.rd 11 rfl) (Rd.own' hr3 hs)) hs fun _ _ hs _=>⟨rfl,hs.put 12 (QQ8 rfl)⟩
 ·exact oa [4] fun D J w hs=>Qac (V:=.tuple #[.agg #[.int .u16 ((Qav p cut n).cart),.slice (aOf (QbU (J 38) 0 1)) (((Qav p cut n).lines).length) (cOf (QbU (J 38) 0 1)),.bool ((Qav p cut n).out),.int .u32 ((Qav p cut n).tick)],.int .i64 (QaY p cut)]) rfl (Zz hs)
 ·exact oa [5] fun D J w hs=>Qaz (V:=.agg #[.int .u16 ((Qav p cut n).cart),.slice (aOf (QbU (J 38) 0 1)) (((Qav p cut n).lines).length) (cOf (QbU (J 38) 0 1)),.bool ((Qav p cut n).out),.int .u32 ((Qav p cut n).tick)]) rfl rfl (Zz hs)
 ·exact oa [5] fun D J w hs=>Qaz (V:=.int .i64 (QaY p cut)) rfl rfl (Zz hs)
 ·exact ob [] [9] rfl rfl fun D J w hs=>QaK (cs:=[I7 0,.slice none 0 0,.bool false,.int .u32 0]) Qgl rfl hs fun _ _ hs=>⟨rfl,hs.put 13 (QQ8 rfl)⟩
 ·exact oa [6,8] fun D J w hs=>Qcq (V:=.agg #[.int .u16 ((Qav p cut n).cart),.slice (aOf (QbU (J 38) 0 1)) (((Qav p cut n).lines).length) (cOf (QbU (J 38) 0 1)),.bool ((Qav p cut n).out),.int .u32 ((Qav p cut n).tick)]) (vs:=[.int .u16 ((Qav p cut n).cart),.slice (aOf (QbU (J 38) 0 1)) (((Qav p cut n).lines).length) (cOf (QbU (J 38) 0 1)),.bool ((Qav p cut n).out),.int .u32 ((Qav p cut n).tick)]) (cs':=[.int .u16 ((Qav p cut n).cart),.slice (aOf (QbU (J 38) 0 1)) (((Qav p cut n).lines).length) (cOf (QbU (J 38) 0 1)),.bool ((Qav p cut n).out),.int .u32 ((Qav p cut n).tick)]) Qcr.1 hs 13 rfl rfl rfl rfl rfl (QQ8 rfl) (Qat rfl (Qat rfl (Qat rfl (Qat rfl Qa9)))) (Qay rfl) fun _ hs=>⟨trivial,hs⟩
 ·exact oa [7] fun D J w hs=>Qad (V:=.int .i64 (QaY p cut)) rfl (Zz hs)
 rintro J1 w33 J2 hJ hs
 replace hJ:J2=upd (upd (mix [34,35,36,37,38,33,39,40,11,12] J1 _) 11 (.pointer (some ⟨(bOf (J1 11)),0,none⟩))) 12 (I6 (QaY p cut)):=hJ
 replace hs:Own w no w33 [blk b1 (((vc p.base.known)++[(.slice a1 p.base.ents.length c1:Value),(.slice a2 p.base.ticks.length c2:Value) ])++[(.slice a3 p.ops.length c3:Value) ]++(vc p.known)) 31,blk b3 (vc cut) 24,row (.slice na13 p.base.ents.length nc14) (p.base.ents.map cec) 106 7,row (.slice na15 p.base.ticks.length nc16) (p.base.ticks.map lsc) 102 2,row (.slice na17 (((Qah p cut).ents).length) nc18) (((Qah p cut).ents).map cec) 106 7,row (.slice na19 (((Qah p cut).ticks).length) nc20) (((Qah p cut).ticks).map lsc) 102 2,blk b21 ((vc ((Qah p cut).known))++[(.slice na17 (((Qah p cut).ents).length) nc18:Value),(.slice na19 (((Qah p cut).ticks).length) nc20:Value) ]) 38,row (.slice x22.1.1.1 (((Qah p cut).ents).length) x22.1.1.2) (((Qah p cut).ents).map cec) 119 7,cond x22.2 emp (row (.slice x22.1.2.1 (((Qah p cut).ticks).length) x22.1.2.2) (((Qah p cut).ticks).map lsc) 125 2),blk b26 ((vc ((Qah p cut).known))++[(.slice x22.1.1.1 (((Qah p cut).ents).length) x22.1.1.2:Value),(.slice x22.1.2.1 (((Qah p cut).ticks).length) x22.1.2.2:Value) ]) 28,row (.slice (aOf (Qa2 (J1 35) 16)) p.base.ents.length (cOf (Qa2 (J1 35) 16))) (p.base.ents.map cec) 106 7,row (.slice (aOf (Qa2 (J1 35) 17)) p.base.ticks.length (cOf (Qa2 (J1 35) 17))) (p.base.ticks.map lsc) 102 2,row (.slice (aOf (QbU (J1 38) 0 1)) (((Qav p cut n).lines).length) (cOf (QbU (J1 38) 0 1))) (((Qav p cut n).lines).map lc) 127 2,blk (bOf (J1 11)) [I7 ((Qav p cut n).cart),.slice (aOf (QbU (J1 38) 0 1)) (((Qav p cut n).lines).length) (cOf (QbU (J1 38) 0 1)),.bool ((Qav p cut n).out),.int .u32 ((Qav p cut n).tick)] 49]:=hs
 generalize (aOf (Qa2 (J1 35) 16))=na34 at hs
 generalize (cOf (Qa2 (J1 35) 16))=nc35 at hs
 generalize (aOf (Qa2 (J1 35) 17))=na36 at hs
 generalize (cOf (Qa2 (J1 35) 17))=nc37 at hs
 generalize (aOf (QbU (J1 38) 0 1))=na38 at hs
 generalize (cOf (QbU (J1 38) 0 1))=nc39 at hs
 generalize (bOf (J1 11))=b40 at hJ hs
 subst hJ
 refine Qag (Qab (Qaa (QaI (cs:=((vc p.base.known)++[(.slice a1 p.base.ents.length c1:Value),(.slice a2 p.base.ticks.length c2:Value) ])++[(.slice a3 p.ops.length c3:Value) ]++(vc p.known)) QgQ hs 0 rfl rfl rfl (Qaa (QaI (cs:=vc cut) Qbt hs 1 rfl rfl rfl (Qaa (Qac (V:=I7 n) rfl (Qaa (Qbf (α:=Option Addr × Nat) (vs:=[.agg (((vc p.base.known)++[(.slice a1 p.base.ents.length c1:Value),(.slice a2 p.base.ticks.length c2:Value) ])++[(.slice a3 p.ops.length c3:Value) ]++(vc p.known)).toArray,.agg (vc cut).toArray,I7 n]) (V:=fun x=>.tuple #[.agg #[I7 ((Qav p cut n).cart),.slice x.1 (((Qav p cut n).lines).length) x.2,.bool ((Qav p cut n).out),.int .u32 ((Qav p cut n).tick)],I6 (QaY p cut)]) (Lo:=fun x=>[row (.slice x.1 ((Qav p cut n).lines).length x.2) (((Qav p cut n).lines).map lc) 127 2]) (F:=fun _ _=>True) QuB rfl rfl ?hc hs fun x42 w41 hs _=>?_)))))))))
 case hc=>exact (Qo3 _ p a1 c1 a2 c2 a3 c3 cut hcut n  hok (by omega) (by omega) (by omega) (Rd.own' hr1 hs) (Rd.own' hr2 hs) (Rd.own' hr3 hs))
 refine Qaa (Qac (V:=.tuple #[.agg #[I7 ((Qav p cut n).cart),.slice x42.1 (((Qav p cut n).lines).length) x42.2,.bool ((Qav p cut n).out),.int .u32 ((Qav p cut n).tick)],I6 (QaY p cut)]) rfl (Qaa (Qaz (V:=.agg #[I7 ((Qav p cut n).cart),.slice x42.1 (((Qav p cut n).lines).length) x42.2,.bool ((Qav p cut n).out),.int .u32 ((Qav p cut n).tick)]) rfl rfl (Qaa (Qaz (V:=I6 (QaY p cut)) rfl rfl (Qaa (QaK (cs:=[I7 0,.slice none 0 0,.bool false,.int .u32 0]) Qgl rfl hs fun b43 w44 hs=>(Qaa (Qcq (V:=.agg #[I7 ((Qav p cut n).cart),.slice x42.1 (((Qav p cut n).lines).length) x42.2,.bool ((Qav p cut n).out),.int .u32 ((Qav p cut n).tick)]) (vs:=[I7 ((Qav p cut n).cart),.slice x42.1 (((Qav p cut n).lines).length) x42.2,.bool ((Qav p cut n).out),.int .u32 ((Qav p cut n).tick)]) (cs':=[I7 ((Qav p cut n).cart),.slice x42.1 (((Qav p cut n).lines).length) x42.2,.bool ((Qav p cut n).out),.int .u32 ((Qav p cut n).tick)]) Qcr.1 hs 15 rfl rfl rfl rfl rfl (QQ8 rfl) (Qat rfl (Qat rfl (Qat rfl (Qat rfl Qa9)))) (Qay rfl) fun w45 hs=>(Qaa (Qad (V:=I6 (QaY p cut)) rfl (Qaf (Qag ?_)))))))))))))
 replace hs:=hs.more emp trivial
 replace hs:=hs.more emp trivial
 replace hs:=hs.more emp trivial
 replace hs:=hs.more emp trivial
 refine QaJ HM [some 48,some 49,some 50,some 51,some 52,some 53,some 54,some 55,some 56,some 57,some 58,some 59,some 60,some 61,some 62,some 63,some 64,some 65,some 66,some 67,some 68,some 69,some 70,some 71,some 72,some 73,some 74,some 75,some 76,some 6] [[],[49],[],[],[],[],[],[],[],[],[58]] [0,1,0,7,0,0,63,127,255,511,1023,511,4095,8191,16383,32767,32767,131071,262143,524287,1048575,1048575,4194303,8388607,16777215,33554431,33554431,134217727,268435455,536870911] [pv (.agg (((vc p.base.known)++[(.slice a1 p.base.ents.length c1:Value),(.slice a2 p.base.ticks.length c2:Value) ])++[(.slice a3 p.ops.length c3:Value) ]++(vc p.known)).toArray),(true,fun J=>.agg (((vc p.base.known)++[(.slice (aOf (Qa2 (J 49) 16)) p.base.ents.length (cOf (Qa2 (J 49) 16)):Value),(.slice (aOf (Qa2 (J 49) 17)) p.base.ticks.length (cOf (Qa2 (J 49) 17)):Value) ])++[(.slice a3 p.ops.length c3:Value) ]++(vc p.known)).toArray),pv (.agg (vc cut).toArray),pv (I6 (QaY p cut)),pv (.agg (((vc p.base.known)++[(.slice a1 p.base.ents.length c1:Value),(.slice a2 p.base.ticks.length c2:Value) ])++[(.slice a3 p.ops.length c3:Value) ]++(vc p.known)).toArray),pv (.agg (vc cut).toArray),pv (I6 (QaY p cut)),pv (.bool true),pv (.bool true),pv (.agg ((vc ((Qah p cut).known))++[(.slice na17 (((Qah p cut).ents).length) nc18:Value),(.slice na19 (((Qah p cut).ticks).length) nc20:Value) ]).toArray),(true,fun J=>.agg ((vc (((Qah p cut)).known))++[(.slice (aOf (Qa2 (J 58) 16)) ((((Qah p cut)).ents).length) (cOf (Qa2 (J 58) 16)):Value),(.slice (aOf (Qa2 (J 58) 17)) ((((Qah p cut)).ticks).length) (cOf (Qa2 (J 58) 17)):Value) ]).toArray),pv (.agg ((vc ((Qah p cut).known))++[(.slice x22.1.1.1 (((Qah p cut).ents).length) x22.1.1.2:Value),(.slice x22.1.2.1 (((Qah p cut).ticks).length) x22.1.2.2:Value) ]).toArray),pv (.bool true),pv (.bool true),pv (.bool true),pv (I6 (QaY p cut)),pv (I6 (QaY p cut)),pv (.bool true),pv (.bool true),pv (.bool true),pv (.agg #[I7 ((Qav p cut n).cart),.slice na38 (((Qav p cut n).lines).length) nc39,.bool ((Qav p cut n).out),.int .u32 ((Qav p cut n).tick)]),pv (.agg #[I7 ((Qav p cut n).cart),.slice x42.1 (((Qav p cut n).lines).length) x42.2,.bool ((Qav p cut n).out),.int .u32 ((Qav p cut n).tick)]),pv (.bool true),pv (.bool true),pv (.bool true),pv (I6 (QaY p cut)),pv (I6 (QaY p cut)),pv (.bool true),pv (.bool true),pv (.bool true)] (fun D J=>[blk b1 (((vc p.base.known)++[(.slice a1 p.base.ents.length c1:Value),(.slice a2 p.base.ticks.length c2:Value) ])++[(.slice a3 p.ops.length c3:Value) ]++(vc p.known)) 31,blk b3 (vc cut) 24,row (.slice na13 p.base.ents.length nc14) (p.base.ents.map cec) 106 7,row (.slice na15 p.base.ticks.length nc16) (p.base.ticks.map lsc) 102 2,row (.slice na17 (((Qah p cut).ents).length) nc18) (((Qah p cut).ents).map cec) 106 7,row (.slice na19 (((Qah p cut).ticks).length) nc20) (((Qah p cut).ticks).map lsc) 102 2,blk b21 ((vc ((Qah p cut).known))++[(.slice na17 (((Qah p cut).ents).length) nc18:Value),(.slice na19 (((Qah p cut).ticks).length) nc20:Value) ]) 38,row (.slice x22.1.1.1 (((Qah p cut).ents).length) x22.1.1.2) (((Qah p cut).ents).map cec) 119 7,cond x22.2 emp (row (.slice x22.1.2.1 (((Qah p cut).ticks).length) x22.1.2.2) (((Qah p cut).ticks).map lsc) 125 2),blk b26 ((vc ((Qah p cut).known))++[(.slice x22.1.1.1 (((Qah p cut).ents).length) x22.1.1.2:Value),(.slice x22.1.2.1 (((Qah p cut).ticks).length) x22.1.2.2:Value) ]) 28,row (.slice na34 p.base.ents.length nc35) (p.base.ents.map cec) 106 7,row (.slice na36 p.base.ticks.length nc37) (p.base.ticks.map lsc) 102 2,row (.slice na38 (((Qav p cut n).lines).length) nc39) (((Qav p cut n).lines).map lc) 127 2,blk b40 [I7 ((Qav p cut n).cart),.slice na38 (((Qav p cut n).lines).length) nc39,.bool ((Qav p cut n).out),.int .u32 ((Qav p cut n).tick)] 49,row (.slice x42.1 (((Qav p cut n).lines).length) x42.2) (((Qav p cut n).lines).map lc) 127 2,blk b43 [I7 ((Qav p cut n).cart),.slice x42.1 (((Qav p cut n).lines).length) x42.2,.bool ((Qav p cut n).out),.int .u32 ((Qav p cut n).tick)] 49,cond (D 1) (row (.slice (aOf (Qa2 (J 49) 16)) p.base.ents.length (cOf (Qa2 (J 49) 16))) (p.base.ents.map cec) 106 7) (emp),cond (D 1) (row (.slice (aOf (Qa2 (J 49) 17)) p.base.ticks.length (cOf (Qa2 (J 49) 17))) (p.base.ticks.map lsc) 102 2) (emp),cond (D 10) (row (.slice (aOf (Qa2 (J 58) 16)) ((((Qah p cut)).ents).length) (cOf (Qa2 (J 58) 16))) ((((Qah p cut)).ents).map cec) 119 7) (emp),cond (D 10) (row (.slice (aOf (Qa2 (J 58) 17)) ((((Qah p cut)).ticks).length) (cOf (Qa2 (J 58) 17))) ((((Qah p cut)).ticks).map lsc) 125 2) (emp)]) [29] (by kernel_rfl) hs ⟨?_,?_,?_,?_,?_,?_,?_,?_,?_,?_,?_,?_,?_,?_,?_,?_,?_,?_,?_,?_,?_,?_,?_,?_,?_,?_,?_,?_,?_,?_,trivial⟩ ?_
 ·exact oa [] fun D J w hs=>QaI (cs:=((vc p.base.known)++[(.slice a1 p.base.ents.length c1:Value),(.slice a2 p.base.ticks.length c2:Value) ])++[(.slice a3 p.ops.length c3:Value) ]++(vc p.known)) QgQ hs 0 rfl rfl rfl (Zz hs)
 ·exact oa [0] fun D J w hs=>Qbf (α:=(Option Addr × Nat) × (Option Addr × Nat)) (vs:=[.agg (((vc p.base.known)++[(.slice a1 p.base.ents.length c1:Value),(.slice a2 p.base.ticks.length c2:Value) ])++[(.slice a3 p.ops.length c3:Value) ]++(vc p.known)).toArray]) (V:=fun y=>.agg (((vc p.base.known)++[(.slice y.1.1 p.base.ents.length y.1.2:Value),(.slice y.2.1 p.base.ticks.length y.2.2:Value) ])++[(.slice a3 p.ops.length c3:Value) ]++(vc p.known)).toArray) (Lo:=fun y=>[row (.slice y.1.1 p.base.ents.length y.1.2) (p.base.ents.map cec) 106 7,row (.slice y.2.1 p.base.ticks.length y.2.2) (p.base.ticks.map lsc) 102 2]) (F:=fun _ _=>True) QqQ rfl rfl (Qfq _ p a1 c1 a2 c2 a3 c3 hok (by omega) (by omega) (by omega) (Rd.own' hr1 hs) (Rd.own' hr2 hs) (Rd.own' hr3 hs)) hs fun _ _ hs _=>⟨rfl,hs.put2 16 17 (QQ8 rfl) (QQ8 rfl)⟩
 ·exact oa [] fun D J w hs=>QaI (cs:=vc cut) Qbt hs 1 rfl rfl rfl (Zz hs)
 ·exact oa [1,2] fun D J w hs=>Qau (vs:=[.agg (((vc p.base.known)++[(.slice (aOf (Qa2 (J 49) 16)) p.base.ents.length (cOf (Qa2 (J 49) 16)):Value),(.slice (aOf (Qa2 (J 49) 17)) p.base.ticks.length (cOf (Qa2 (J 49) 17)):Value) ])++[(.slice a3 p.ops.length c3:Value) ]++(vc p.known)).toArray,.agg (vc cut).toArray]) (V:=.int .i64 (QaY p cut)) Qq6 rfl rfl (Qjr _ p (aOf (Qa2 (J 49) 16)) (cOf (Qa2 (J 49) 16)) (aOf (Qa2 (J 49) 17)) (cOf (Qa2 (J 49) 17)) a3 c3 cut hcut hok (by omega) (by omega) (by omega) (hs.rd 16 rfl) (hs.rd 17 rfl) (Rd.own' hr3 hs)) hs fun _ hs=>Zz hs
 ·exact oa [] fun D J w hs=>QaI (cs:=((vc p.base.known)++[(.slice a1 p.base.ents.length c1:Value),(.slice a2 p.base.ticks.length c2:Value) ])++[(.slice a3 p.ops.length c3:Value) ]++(vc p.known)) QgQ hs 0 rfl rfl rfl (Zz hs)
 ·exact oa [] fun D J w hs=>QaI (cs:=vc cut) Qbt hs 1 rfl rfl rfl (Zz hs)
 ·exact oa [4,5] fun D J w hs=>Qau (vs:=[.agg (((vc p.base.known)++[(.slice a1 p.base.ents.length c1:Value),(.slice a2 p.base.ticks.length c2:Value) ])++[(.slice a3 p.ops.length c3:Value) ]++(vc p.known)).toArray,.agg (vc cut).toArray]) (V:=.int .i64 (QaY p cut)) QsV rfl rfl (QmG _ p a1 c1 a2 c2 a3 c3 cut hcut hok (Rd.own' hr1 hs) (Rd.own' hr2 hs) (Rd.own' hr3 hs)) hs fun _ hs=>Zz hs
 ·exact oa [3,6] fun D J w hs=>Qbk (V:=.bool (decide (QaY p cut=QaY p cut))) (V':=.bool true) (QaT rfl rfl ⟨rfl,rfl⟩) (congrArg Value.bool (by simp)) (Zz hs)
 ·exact oa [7] fun D J w hs=>Qac (V:=.bool true) rfl (Zz hs)
 ·exact obg [8] [] true rfl (fun _=>rfl) rfl (fun _ _ _ h=>nomatch h) fun D J w _ hs=>QaI (cs:=(vc ((Qah p cut).known))++[(.slice na17 (((Qah p cut).ents).length) nc18:Value),(.slice na19 (((Qah p cut).ticks).length) nc20:Value) ]) QcD hs 6 rfl rfl rfl (Zz hs)
 ·exact obg [8,9] [] true rfl (fun _=>rfl) rfl (fun _ _ _ h=>nomatch h) fun D J w _ hs=>Qbf (α:=(Option Addr × Nat) × (Option Addr × Nat)) (vs:=[.agg ((vc ((Qah p cut).known))++[(.slice na17 (((Qah p cut).ents).length) nc18:Value),(.slice na19 (((Qah p cut).ticks).length) nc20:Value) ]).toArray]) (V:=fun x:(Option Addr × Nat) × (Option Addr × Nat)=>.agg (vc ((Qah p cut)).known++[(.slice x.1.1 (((Qah p cut)).ents).length x.1.2:Value),(.slice x.2.1 (((Qah p cut)).ticks).length x.2.2:Value)]).toArray) (Lo:=fun x=>[row (.slice x.1.1 (((Qah p cut)).ents).length x.1.2) ((((Qah p cut)).ents).map cec) 119 7,row (.slice x.2.1 (((Qah p cut)).ticks).length x.2.2) ((((Qah p cut)).ticks).map lsc) 125 2]) (F:=fun _ _=>True) Qvm rfl rfl (QqV _ (Qah p cut) na17 nc18 na19 nc20 (by omega) (by omega) (hs.rd 4 rfl) (hs.rd 5 rfl)) hs fun _ _ hs _=>⟨rfl,hs.put2 18 19 (QQ8 rfl) (QQ8 rfl)⟩
 ·exact obg [8] [] true rfl (fun _=>rfl) rfl (fun _ _ _ h=>nomatch h) fun D J w _ hs=>QaI (cs:=(vc ((Qah p cut).known))++[(.slice x22.1.1.1 (((Qah p cut).ents).length) x22.1.1.2:Value),(.slice x22.1.2.1 (((Qah p cut).ticks).length) x22.1.2.2:Value) ]) Qdj hs 9 rfl rfl rfl (Zz hs)
 ·exact obg [8,10,11] [] true rfl (fun _=>rfl) rfl (fun _ _ _ h=>nomatch h) fun D J w _ hs=>QhI (V':=.bool true) (congrArg Value.bool (by simp)) (vs:=[.agg ((vc (((Qah p cut)).known))++[(.slice (aOf (Qa2 (J 58) 16)) ((((Qah p cut)).ents).length) (cOf (Qa2 (J 58) 16)):Value),(.slice (aOf (Qa2 (J 58) 17)) ((((Qah p cut)).ticks).length) (cOf (Qa2 (J 58) 17)):Value) ]).toArray,.agg ((vc ((Qah p cut).known))++[(.slice x22.1.1.1 (((Qah p cut).ents).length) x22.1.1.2:Value),(.slice x22.1.2.1 (((Qah p cut).ticks).length) x22.1.2.2:Value) ]).toArray]) (V:=.bool (decide (((Qah p cut)).known=(Qah p cut).known)&&(decide (((Qah p cut)).ents=(Qah p cut).ents)&&decide (((Qah p cut)).ticks=(Qah p cut).ticks)))) Qve rfl rfl (Qpn _ ((Qah p cut)) (aOf (Qa2 (J 58) 16)) (cOf (Qa2 (J 58) 16)) (aOf (Qa2 (J 58) 17)) (cOf (Qa2 (J 58) 17)) (Qah p cut) x22.1.1.1 x22.1.1.2 x22.1.2.1 x22.1.2.2 (hs.rd 18 rfl) (hs.rd 19 rfl) (hs.rd 7 rfl) (hs.rdC 8 rfl hrz25)) hs fun _ hs=>Zz hs
 ·exact oa [8,12] fun D J w hs=>Qcy (V:=.bool true) rfl rfl (Zz hs)
 ·exact oa [13] fun D J w hs=>Qac (V:=.bool true) rfl (Zz hs)
 ·exact obg [14] [] true rfl (fun _=>rfl) rfl (fun _ _ _ h=>nomatch h) fun D J w _ hs=>Qac (V:=I6 (QaY p cut)) rfl (Zz hs)
 ·exact obg [14] [] true rfl (fun _=>rfl) rfl (fun _ _ _ h=>nomatch h) fun D J w _ hs=>Qac (V:=I6 (QaY p cut)) rfl (Zz hs)
 ·exact obg [14,15,16] [] true rfl (fun _=>rfl) rfl (fun _ _ _ h=>nomatch h) fun D J w _ hs=>Qbk (V:=.bool (decide (QaY p cut=QaY p cut))) (V':=.bool true) (QaT rfl rfl ⟨rfl,rfl⟩) (congrArg Value.bool (by simp)) (Zz hs)
 ·exact oa [14,17] fun D J w hs=>Qcy (V:=.bool true) rfl rfl (Zz hs)
 ·exact oa [18] fun D J w hs=>Qac (V:=.bool true) rfl (Zz hs)
 ·exact obg [19] [] true rfl (fun _=>rfl) rfl (fun _ _ _ h=>nomatch h) fun D J w _ hs=>QaI (cs:=[I7 ((Qav p cut n).cart),.slice na38 (((Qav p cut n).lines).length) nc39,.bool ((Qav p cut n).out),.int .u32 ((Qav p cut n).tick)]) Qcr hs 13 rfl rfl rfl (Zz hs)
 ·exact obg [19] [] true rfl (fun _=>rfl) rfl (fun _ _ _ h=>nomatch h) fun D J w _ hs=>QaI (cs:=[I7 ((Qav p cut n).cart),.slice x42.1 (((Qav p cut n).lines).length) x42.2,.bool ((Qav p cut n).out),.int .u32 ((Qav p cut n).tick)]) Qcr hs 15 rfl rfl rfl (Zz hs)
 ·exact obg [19,20,21] [] true rfl (fun _=>rfl) rfl (fun _ _ _ h=>nomatch h) fun D J w _ hs=>QhI (V':=.bool true) (congrArg Value.bool (Qm1 _)) (vs:=[.agg #[I7 ((Qav p cut n).cart),.slice na38 (((Qav p cut n).lines).length) nc39,.bool ((Qav p cut n).out),.int .u32 ((Qav p cut n).tick)],.agg #[I7 ((Qav p cut n).cart),.slice x42.1 (((Qav p cut n).lines).length) x42.2,.bool ((Qav p cut n).out),.int .u32 ((Qav p cut n).tick)]]) (V:=.bool (decide ((Qav p cut n).cart=(Qav p cut n).cart)&&(((Qav p cut n).out) == ((Qav p cut n).out))&&decide ((Qav p cut n).tick=(Qav p cut n).tick)&&decide ((Qav p cut n).lines=(Qav p cut n).lines))) QvP rfl rfl (QnP _ ((Qav p cut n).cart) ((Qav p cut n).cart) ((Qav p cut n).tick) ((Qav p cut n).tick) ((Qav p cut n).out) ((Qav p cut n).out) na38 x42.1 nc39 x42.2 ((Qav p cut n).lines) ((Qav p cut n).lines) (hs.rd 12 rfl) (hs.rd 14 rfl)) hs fun _ hs=>Zz hs
 ·exact oa [19,22] fun D J w hs=>Qcy (V:=.bool true) rfl rfl (Zz hs)
 ·exact oa [23] fun D J w hs=>Qac (V:=.bool true) rfl (Zz hs)
 ·exact obg [24] [] true rfl (fun _=>rfl) rfl (fun _ _ _ h=>nomatch h) fun D J w _ hs=>Qac (V:=I6 (QaY p cut)) rfl (Zz hs)
 ·exact obg [24] [] true rfl (fun _=>rfl) rfl (fun _ _ _ h=>nomatch h) fun D J w _ hs=>Qac (V:=I6 (QaY p cut)) rfl (Zz hs)
 ·exact obg [24,25,26] [] true rfl (fun _=>rfl) rfl (fun _ _ _ h=>nomatch h) fun D J w _ hs=>Qbk (V:=.bool (decide (QaY p cut=QaY p cut))) (V':=.bool true) (QaT rfl rfl ⟨rfl,rfl⟩) (congrArg Value.bool (by simp)) (Zz hs)
 ·exact oa [24,27] fun D J w hs=>Qcy (V:=.bool true) rfl rfl (Zz hs)
 ·exact oa [28] fun D J w hs=>Qad (V:=.bool true) rfl (Zz hs)
 rintro J1 w52 J2 hJ hs
 replace hJ:J2=upd (mix (sq 48 29++[6]) J1 _) 6 (.bool true):=hJ
 replace hs:Own w no w52 [blk b1 (((vc p.base.known)++[(.slice a1 p.base.ents.length c1:Value),(.slice a2 p.base.ticks.length c2:Value) ])++[(.slice a3 p.ops.length c3:Value) ]++(vc p.known)) 31,blk b3 (vc cut) 24,row (.slice na13 p.base.ents.length nc14) (p.base.ents.map cec) 106 7,row (.slice na15 p.base.ticks.length nc16) (p.base.ticks.map lsc) 102 2,row (.slice na17 (((Qah p cut).ents).length) nc18) (((Qah p cut).ents).map cec) 106 7,row (.slice na19 (((Qah p cut).ticks).length) nc20) (((Qah p cut).ticks).map lsc) 102 2,blk b21 ((vc ((Qah p cut).known))++[(.slice na17 (((Qah p cut).ents).length) nc18:Value),(.slice na19 (((Qah p cut).ticks).length) nc20:Value) ]) 38,row (.slice x22.1.1.1 (((Qah p cut).ents).length) x22.1.1.2) (((Qah p cut).ents).map cec) 119 7,cond x22.2 emp (row (.slice x22.1.2.1 (((Qah p cut).ticks).length) x22.1.2.2) (((Qah p cut).ticks).map lsc) 125 2),blk b26 ((vc ((Qah p cut).known))++[(.slice x22.1.1.1 (((Qah p cut).ents).length) x22.1.1.2:Value),(.slice x22.1.2.1 (((Qah p cut).ticks).length) x22.1.2.2:Value) ]) 28,row (.slice na34 p.base.ents.length nc35) (p.base.ents.map cec) 106 7,row (.slice na36 p.base.ticks.length nc37) (p.base.ticks.map lsc) 102 2,row (.slice na38 (((Qav p cut n).lines).length) nc39) (((Qav p cut n).lines).map lc) 127 2,blk b40 [I7 ((Qav p cut n).cart),.slice na38 (((Qav p cut n).lines).length) nc39,.bool ((Qav p cut n).out),.int .u32 ((Qav p cut n).tick)] 49,row (.slice x42.1 (((Qav p cut n).lines).length) x42.2) (((Qav p cut n).lines).map lc) 127 2,blk b43 [I7 ((Qav p cut n).cart),.slice x42.1 (((Qav p cut n).lines).length) x42.2,.bool ((Qav p cut n).out),.int .u32 ((Qav p cut n).tick)] 49,row (.slice (aOf (Qa2 (J1 49) 16)) p.base.ents.length (cOf (Qa2 (J1 49) 16))) (p.base.ents.map cec) 106 7,row (.slice (aOf (Qa2 (J1 49) 17)) p.base.ticks.length (cOf (Qa2 (J1 49) 17))) (p.base.ticks.map lsc) 102 2,row (.slice (aOf (Qa2 (J1 58) 16)) ((((Qah p cut)).ents).length) (cOf (Qa2 (J1 58) 16))) ((((Qah p cut)).ents).map cec) 119 7,row (.slice (aOf (Qa2 (J1 58) 17)) ((((Qah p cut)).ticks).length) (cOf (Qa2 (J1 58) 17))) ((((Qah p cut)).ticks).map lsc) 125 2]:=hs
 generalize (aOf (Qa2 (J1 49) 16))=na53 at hs
 generalize (cOf (Qa2 (J1 49) 16))=nc54 at hs
 generalize (aOf (Qa2 (J1 49) 17))=na55 at hs
 generalize (cOf (Qa2 (J1 49) 17))=nc56 at hs
 generalize (aOf (Qa2 (J1 58) 16))=na57 at hs
 generalize (cOf (Qa2 (J1 58) 16))=nc58 at hs
 generalize (aOf (Qa2 (J1 58) 17))=na59 at hs
 generalize (cOf (Qa2 (J1 58) 17))=nc60 at hs
 subst hJ
 refine Qaw ?_
 refine ⟨_,Qaq (V:=.bool true) Tryz.results3 rfl,(Zr hs ?_)⟩
 rfl
end Tt
end Go.Proofs
namespace Go.Vx
open Go.RowKit Go.ChangeShapes Go.WideShapes Go.ChangeAt
theorem Qpq {P:Program} {t tS tv s1 s2 s3 e1 e2 e3:TypeId} {f0 f1 f2 q0 q1 q2:Field} (ht:P.underlying t=some (.struct #[f0,f1,f2])) (hoff:[f0.offset,f1.offset,f2.offset]=[0,18,19]) (hty:[f0.type,f1.type,f2.type]=[tS,s3,tv])
  (hS:P.underlying tS=some (.struct #[q0,q1,q2])) (hoffS:[q0.offset,q1.offset,q2.offset]=[0,16,17]) (htyS:[q0.type,q1.type,q2.type]=[tv,s1,s2])
  (hV:Qdr P tv vc QbX) (u1:P.underlying s1=some (.slice e1)) (hE:Qdr P e1 cec QeM) (u2:P.underlying s2=some (.slice e2)) (hL:Qdr P e2 lsc Qgz) (u3:P.underlying s3=some (.slice e3)) (hO:Qdr P e3 oc Qdk)
  (hc:[P.cellsOf tv,P.cellsOf s1,P.cellsOf s2,P.cellsOf s3,P.cellsOf e1,P.cellsOf e2,P.cellsOf e3,P.cellsOf tS,P.cellsOf t]=[16,1,1,1,7,2,23,18,35]) (hts:(P.cellTypes P.depth t).map (fun ts=>(ts.length,ts[16]?,ts[17]?,ts[18]?))=some (35,some s1,some s2,some s3))
  {H:Type} {enc:TypeId × Value->H} {w:World} {r:Reach} {b0 base:Nat} {spare:Nat->Bool} {held:Bool} {v:Value} {d:DataW H} {ps:List MemPlace}
  (hv:Value.okWide P w r b0 t v) (h:DataW.Trod enc P w base spare held t v d ps) :
  ∃ (x:Pst) (a:Option Addr) (c:Nat) (b:Option Addr) (e:Nat) (a3:Option Addr) (c3:Nat),v = .agg ((vc x.base.known++[(.slice a x.base.ents.length c:Value),(.slice b x.base.ticks.length e:Value)])++[(.slice a3 x.ops.length c3:Value)]++vc x.known).toArray/\Qdw x /\
   Rd w (.slice a x.base.ents.length c) 7 (x.base.ents.map cec)/\Rd w (.slice b x.base.ticks.length e) 2 (x.base.ticks.map lsc)/\Rd w (.slice a3 x.ops.length c3) 23 (x.ops.map oc):=by
 unfold Value.okWide at hv
 rw [ht] at hv
 obtain ⟨cs,rfl,hsz,ts,hts',_,hcell⟩:=hv
 obtain ⟨fuel,h⟩:=h
 have h':DataW.trod enc P w base spare held fuel t cs.toList=some (d,ps):=h
 obtain ⟨xs,n,_,_,hl,hxl,hx⟩:=DataW.trod_struct ht h'
 simp only [List.cons.injEq,and_true] at hoff hty hc hoffS htyS
 obtain ⟨o0,o1,o2⟩:=hoff
 obtain ⟨t0,t1,t2⟩:=hty
 obtain ⟨p0,p1,p2⟩:=hoffS
 obtain ⟨y0,y1,y2⟩:=htyS
 obtain ⟨cv,k1,k2,k3,k4,k5,k6,k7,k8⟩:=hc
 rw [k8] at hl
 rw [hts'] at hts
 simp only [Option.map_some,Option.some.injEq,Prod.mk.injEq] at hts
 obtain ⟨hlen,hs1,hs2,hs3⟩:=hts
 have g0:=hx 0 f0 rfl
 have g1:=hx 1 f1 rfl
 have g2:=hx 2 f2 rfl
 have hx2:xs.length=3:=by simpa using hxl
 rw [List.getElem?_eq_getElem (by omega)] at g0 g1 g2
 rw [o0,t0,k7] at g0
 rw [o1,t1,k3] at g1
 rw [o2,t2,cv] at g2
 obtain ⟨ys,m,_,_,hl2,hyl,hy⟩:=DataW.trod_struct hS g0
 have j0:=hy 0 q0 rfl
 have j1:=hy 1 q1 rfl
 have j2:=hy 2 q2 rfl
 have hy2:ys.length=3:=by simpa using hyl
 rw [List.getElem?_eq_getElem (by omega)] at j0 j1 j2
 rw [p0,y0,cv,List.drop_zero,List.drop_zero,List.take_take,Nat.min_eq_left (by decide)] at j0
 rw [p1,y1,k1,List.drop_zero,List.drop_take,List.take_take,Nat.min_eq_left (by decide)] at j1
 rw [p2,y2,k2,List.drop_zero,List.drop_take,List.take_take,Nat.min_eq_left (by decide)] at j2
 obtain ⟨kn,hkn,e0⟩:=hV _ _ _ _ _ _ _ _ _ j0
 obtain ⟨kn2,hkn2,e4⟩:=hV _ _ _ _ _ _ _ _ _ g2
 have a1:(cs.toList.drop 16).take 1=[cs.toList[16]'(by omega)]:=by rw [List.drop_eq_getElem_cons (by omega)];rfl
 have a2:(cs.toList.drop 17).take 1=[cs.toList[17]'(by omega)]:=by rw [List.drop_eq_getElem_cons (by omega)];rfl
 have a3:(cs.toList.drop 18).take 1=[cs.toList[18]'(by omega)]:=by rw [List.drop_eq_getElem_cons (by omega)];rfl
 have hsp:cs.toList=cs.toList.take 16++[cs.toList[16]'(by omega),cs.toList[17]'(by omega)]++[cs.toList[18]'(by omega)]++(cs.toList.drop 19).take 16:=by
  have hd:(cs.toList.drop 19).take 16=cs.toList.drop 19:=List.take_of_length_le (by rw [List.length_drop];omega)
  rw [hd]
  simp only [List.append_assoc,List.cons_append,List.nil_append]
  rw [← List.drop_eq_getElem_cons (by omega),← List.drop_eq_getElem_cons (by omega),← List.drop_eq_getElem_cons (by omega),List.take_append_drop]
 generalize hz1:cs.toList[16]'(by omega)=z1 at a1 hsp
 generalize hz2:cs.toList[17]'(by omega)=z2 at a2 hsp
 generalize hz3:cs.toList[18]'(by omega)=z3 at a3 hsp
 rw [a1] at j1
 rw [a2] at j2
 rw [a3] at g1
 have i1:cs[16]?=some z1:=by rw [← hz1,← Array.getElem?_toList];exact List.getElem?_eq_getElem _
 have i2:cs[17]?=some z2:=by rw [← hz2,← Array.getElem?_toList];exact List.getElem?_eq_getElem _
 have i3:cs[18]?=some z3:=by rw [← hz3,← Array.getElem?_toList];exact List.getElem?_eq_getElem _
 obtain ⟨yy1,hy1,w1⟩:=hcell 16 z1 i1
 obtain ⟨yy2,hyy2,w2⟩:=hcell 17 z2 i2
 obtain ⟨yy3,hy3,w3⟩:=hcell 18 z3 i3
 rw [hlen,show 16%35=16 by rfl,hs1] at hy1
 rw [hlen,show 17%35=17 by rfl,hs2] at hyy2
 rw [hlen,show 18%35=18 by rfl,hs3] at hy3
 cases hy1
 cases hyy2
 cases hy3
 have v1:Value.okWide P w r b0 s1 z1:=by unfold Value.okWide;rw [u1];exact w1
 have v2:Value.okWide P w r b0 s2 z2:=by unfold Value.okWide;rw [u2];exact w2
 have v3:Value.okWide P w r b0 s3 z3:=by unfold Value.okWide;rw [u3];exact w3
 obtain ⟨_,_,_,hw1⟩:=okWide_slice u1 v1
 obtain ⟨_,_,_,hw2⟩:=okWide_slice u2 v2
 obtain ⟨_,_,_,hw3⟩:=okWide_slice u3 v3
 have tr1:DataW.Trod enc P w base spare held s1 z1 (ys[1].1) (ys[1].2):=⟨m,by subst hw1;exact j1⟩
 have tr2:DataW.Trod enc P w base spare held s2 z2 (ys[2].1) (ys[2].2):=⟨m,by subst hw2;exact j2⟩
 have tr3:DataW.Trod enc P w base spare held s3 z3 (xs[1].1) (xs[1].2):=⟨n,by subst hw3;exact g1⟩
 obtain ⟨a,c,l1,hv1,hok1,hr1⟩:=QgI u1 hE (fun _=>rfl) k4 v1 tr1
 obtain ⟨b,e,l2,hv2,hok2,hr2⟩:=QgI u2 hL (fun _=>rfl) k5 v2 tr2
 obtain ⟨a',c',l3,hv3,hok3,hr3⟩:=QgI u3 hO (fun _=>rfl) k6 v3 tr3
 refine ⟨⟨⟨kn,l1,l2⟩,l3,kn2⟩,a,c,b,e,a',c',?_,⟨⟨hkn,hok1,hok2⟩,hok3,hkn2⟩,hr1,hr2,hr3⟩
 rw [e0,e4,hv1,hv2,hv3] at hsp
 congr 1
 rw [← hsp]
end Go.Vx
namespace Go.Proofs.YtbjbjboehjdcaaaGreat
open Go.RowKit Go.Vx
theorem Tryz.own:ownKnob Tryz.prog.godebug=none:=by kernel_rfl
theorem Tryz.laidOut:laidOutB Tryz.prog=true:=by kernel_rfl
theorem O24:Qdr Tryz.prog 24 vc QbX:=QvB Tryz.underlying24 Tryz.underlying22 (by kernel_rfl) (by kernel_rfl)
theorem O96:Qdr Tryz.prog 96 dc Qc1:=Quv Tryz.underlying96 rfl rfl Tryz.underlying5 Tryz.underlying22 (by kernel_rfl) (by kernel_rfl) (by kernel_rfl)
theorem O98:Qdr Tryz.prog 98 oc Qdk:=Qvb Tryz.underlying98 rfl rfl O96 O24 Tryz.underlying5 Tryz.underlying32 Tryz.underlying32 Tryz.underlying32 Tryz.underlying22 (by kernel_rfl) (by kernel_rfl)
theorem O119:Qdr Tryz.prog 119 cec QeM:=QuK Tryz.underlying119 rfl rfl O96 Tryz.underlying32 Tryz.underlying32 Tryz.underlying32 Tryz.underlying5 Tryz.underlying104 (by kernel_rfl) (by kernel_rfl)
theorem O125:Qdr Tryz.prog 125 lsc Qgz:=Qvv Tryz.underlying125 rfl Tryz.underlying32 Tryz.underlying22 (by kernel_rfl) (by kernel_rfl)
end Go.Proofs.YtbjbjboehjdcaaaGreat
namespace Go.Vx
open Go.RowKit Go.Shelf Go.Sort Go.Proofs
theorem QoY {w w':World} {L:List Res} (h:Own w no w' L):∃ q os,w'=grow (w.drewN q) os:=by
 refine ⟨w'.drawn-w.drawn,w'.heap.extract w.heap.size w'.heap.size,?_⟩
 have hd:w.drawn+(w'.drawn-w.drawn)=w'.drawn:=by have:=h.tape.2;omega
 have hh:w.heap++w'.heap.extract w.heap.size w'.heap.size=w'.heap:=by
  apply Array.ext_getElem?
  intro i
  by_cases hi:i<w.heap.size
  ·rw [Array.getElem?_append_left hi,h.old i hi (fun h=>h)]
  rw [Array.getElem?_append_right (by omega)]
  have:=h.size
  simp only [Array.getElem?_extract]
  split
  ·congr 1;omega
  rw [Array.getElem?_eq_none (by omega)]
 have h1:=h.os
 have h2:=h.tape.1
 have h3:=h.output
 cases w' with
 | mk heap tape drawn os output =>
  cases w with
  | mk heap0 tape0 drawn0 os0 output0 =>
   simp only at h1 h2 h3 hd hh
   subst h1;subst h2;subst h3
   simp [grow,World.drewN,hh,hd]
section
variable {P:Program} {J:Ren} {α:Type} [Inhabited α]
theorem QjN {enc:α->List Value} {k:Nat} {l:List α} (hk:∀ x,(enc x).length=k) {j:Nat} (hj:j<l.length*k):(l.map enc).flatten[j]?=some (flatK enc k l.toArray)[j]!:=by
 have hk0:0<k:=by
  rcases Nat.eq_zero_or_pos k with h|h
  ·subst h;simp at hj
  exact h
 have hi:j/k<l.length:=Nat.div_lt_of_lt_mul (by rw [Nat.mul_comm];exact hj)
 have hm:j%k<k:=Nat.mod_lt _ hk0
 have e1:(l.map enc)[j/k]?=some (enc l[j/k]):=by simp [hi]
 have e2:(enc l[j/k])[j%k]?=some (enc l[j/k])[j%k]!:=by
  rw [List.getElem?_eq_getElem (by rw [hk];exact hm),List.getElem!_eq_getElem?_getD,List.getElem?_eq_getElem (by rw [hk];exact hm)]
  rfl
 have h:=QhM (l.map enc) k (Qbi hk l) (j/k) (j%k) _ _ e1 e2
 rw [Nat.mul_comm,Nat.div_add_mod] at h
 rw [h,get_flatK enc k l.toArray j (by simpa using hj)]
 simp [hi]
theorem Qk7 {enc:α->List Value} {k:Nat} {w:World} {S:Nat->Prop} {g cap T n:Nat} {l m:List α} {os:Array Obj} (hk:∀ x,(enc x).length=k) (h1:∀ x,∀ v∈enc x,v.oneCell'=true)
  (hR:(row (.slice (some ⟨g,0,none⟩) l.length cap) (l.map enc) T k).holds w S) (hlt:∀ b,S b->b<w.heap.size) (hlen:m.length=l.length) :
  Own w S (sortWorldK enc k w g 0 n m.toArray os) [row (.slice (some ⟨g,0,none⟩) l.length cap) (m.map enc) T k]:=by
 obtain ⟨_,hown,hS⟩:=hR
 have hSg:=hS g rfl
 have hgl:=hlt g hSg
 rcases hown.2 with ⟨hv,_⟩|⟨g',cap',cur,hv,_,hg,hnc,hcm,hcs,htake⟩
 ·cases hv
 simp only [Value.slice.injEq,Option.some.injEq,Addr.mk.injEq,and_true] at hv
 obtain ⟨rfl,hn,rfl⟩:=hv
 simp only [QQ6] at hnc htake hn
 have hX:∀ c,c<w.heap.size->(sortWorldK enc k w g 0 n m.toArray os).heap[c]?=(w.heap.modify g (onCells (putCells id 0 (flatK enc k m.toArray))))[c]?:=by
  intro c hc
  show ((w.heap.modify g (onCells (putCells id 0 (flatK enc k m.toArray))))++os)[c]?=_
  rw [Array.getElem?_append_left (by simpa using hc)]
 have hXg:(sortWorldK enc k w g 0 n m.toArray os).heap[g]?=some (.cells (putCells id 0 (flatK enc k m.toArray) cur) T (0,0)):=by
  rw [hX g hgl,Array.getElem?_modify,if_pos rfl,hg];rfl
 have hXo:∀ c,c<w.heap.size->c≠g->(sortWorldK enc k w g 0 n m.toArray os).heap[c]?=w.heap[c]?:=by
  intro c hc hne
  rw [hX c hc,Array.getElem?_modify,if_neg (fun e=>hne e.symm)]
 have hsz:(sortWorldK enc k w g 0 n m.toArray os).heap.size=w.heap.size+os.size:=by
  show ((w.heap.modify g (onCells (putCells id 0 (flatK enc k m.toArray))))++os).size=_
  simp
 refine ⟨rfl,⟨rfl,Nat.le_add_right _ _⟩,rfl,by omega,fun b hb hm=>hXo b hb (fun e=>hm (e ▸ hSg)),fun j b=>j=0/\b=g,fun j R hj=>?_,fun j b hb=>by rw [hb.2];omega,fun j j' b hb hb'=>hb.1.trans hb'.1.symm,fun j b hb _=>by rw [hb.2];exact hSg⟩
 cases j with
 | succ j=>simp at hj
 | zero =>
  simp only [List.getElem?_cons_zero,Option.some.injEq] at hj
  subst hj
  refine ⟨⟨Qbi hk m,QaL h1 m⟩,⟨?_,.inr ⟨g,cap,_,by rw [QQ6,hlen],Nat.zero_le _,hXg,by rw [QQ6];omega,hcm,by unfold putCells;simpa using hcs,?_⟩⟩,fun g' hg'=>by cases hg';exact ⟨rfl,rfl⟩⟩
  ·rw [QdE _ (Qbi hk m)]
  apply List.ext_getElem?
  intro j
  rw [List.getElem?_take,QQ6]
  by_cases hj:j<m.length*k
  ·have hjc:j<cur.size:=by
    rw [hcs]
    exact Nat.lt_of_lt_of_le hj (Nat.mul_le_mul_right _ (by omega))
   rw [if_pos hj,QjN hk hj,Array.getElem?_toList]
   unfold putCells
   rw [Array.getElem?_mapIdx,Array.getElem?_eq_getElem hjc]
   simp [hj]
  rw [if_neg hj,List.getElem?_eq_none (by rw [QdE _ (Qbi hk m),QQ6];omega)]
theorem Qn2 (L:SlLaysF0.n6 P J) {k T g:Nat} {enc:α->List Value} {cf:α->α->Int} (aE:∀ w,(isAgg (J.t 24)).run P w = .ok true w) (zE:∀ w,(Go.sizeOf (J.t 24)).run P w = .ok k w) (hk:∀ x,(enc x).length=k) (h1:∀ x,∀ v∈enc x,v.oneCell'=true)
  (hO:SWO (ltOf cf)) (hg:En P g) (hc:∀ w x y,Calls P g #[.agg (enc x).toArray,.agg (enc y).toArray] w fun e w'=>e = .returned (.int .i64 (cf x y))/\Own w no w' [])
  (hnil:∀ w,Calls P (J.f 6) #[.slice none 0 0,.func (.func g) #[] #[]] w fun e w'=>e = .returned (.tuple #[])/\w'=w) :
  QgW P (J.f 6) g enc T k (fun l m=>m.Perm l/\m.Pairwise fun x y=>¬cf y x<0):=by
 intro w S a c l hR hlt hsz
 have hR':=hR
 obtain ⟨_,hown,hS⟩:=hR
 rcases hown.2 with ⟨hv,hn⟩|⟨b,cap,cur,hv,_,hb,hnc,hcm,hcs,htake⟩
 ·have hl:l=[]:=by simpa using hn
  subst hl
  simp only [List.length_nil,Value.slice.injEq] at hv
  obtain ⟨rfl,_,rfl⟩:=hv
  exact (hnil w).mono fun e w' ⟨he,hw⟩=>⟨⟨[],List.Perm.refl _,List.Pairwise.nil⟩,he,by subst hw;exact Own.lent hR' hlt,trivial⟩
 simp only [Value.slice.injEq,QQ6] at hv
 obtain ⟨rfl,_,rfl⟩:=hv
 have hbl:=hlt b (hS b rfl)
 have hH:HoldsK enc k w b 0 l.toArray:=by
  intro j hj
  have hj':j<l.length*k:=by simpa using hj
  rw [Nat.zero_add]
  refine ⟨?_,frozen_of_row w b _ _ _ hb⟩
  rw [cell_of_row w b j _ _ _ hb]
  have h2:=QjN (l:=l) hk hj'
  rw [← htake,List.getElem?_take,QQ6,if_pos hj'] at h2
  simpa using h2
 have hcmp:CmpLays P g #[] enc k cf b 0 l.toArray.size w:=fun m os dk _ x y =>
  (hc _ x y).mono fun e w' ⟨he,ho⟩=>⟨he,QoY ho⟩
 refine (AnyQ.slices_SortFunc L k aE zE enc hk h1 cf hO g #[] b 0 c l.toArray w hg hcmp hH hbl (by simpa using hsz)).mono ?_
 rintro e w' ⟨he,d',n,os,hp,hs,rfl⟩
 obtain ⟨hp1,_,hp2⟩:=hp
 have hsz':d'.toList.length=l.length:=by simpa using hp1
 refine ⟨⟨d'.toList,?_,?_⟩,he,?_,trivial⟩
 ·have e1:d'.extract 0 l.toArray.size=d':=by rw [← hp1];simp
  have e2:l.toArray.extract 0 l.toArray.size=l.toArray:=by simp
  rw [e1,e2] at hp2
  simpa using hp2
 ·rw [List.pairwise_iff_getElem]
  intro i j hi hj hij
  have h3:=hs i j (Nat.zero_le _) hij (by rw [← hp1];simpa using hj)
  unfold ltOf at h3
  have e1:d'[i]! = d'.toList[i]:=by simp at hi;simp [hi]
  have e2:d'[j]! = d'.toList[j]:=by simp at hj;simp [hj]
  rw [e1,e2] at h3
  simpa using h3
 have:=Qk7 (n:=n) (os:=os) hk h1 hR' hlt hsz'
 simpa using this
end
end Go.Vx
namespace Go.Proofs
open Go.Shelf
def Tryz.sortE_ren:Go.Shelf.Ren:=⟨fun|6=>48|15=>92|14=>91|28=>144|29=>145|20=>136|21=>137|22=>138|23=>139|24=>140|25=>141|26=>142|27=>143|46=>161|47=>162|48=>163|49=>164|50=>165|57=>181|n=>n,fun|22=>35|24=>106|25=>116|3=>3|39=>159|0=>0|53=>22|55=>104|4=>4|46=>192|45=>191|50=>138|5=>5|9=>9|66=>211|70=>215|76=>227|77=>228|n=>n,fun|n=>n⟩
theorem Tryz.sortE:Go.Proofs.SlLaysF0.n6 Tryz.prog Tryz.sortE_ren:={
 mixed:=by kernel_rfl
 f6:=⟨Tryz.f48.name,by decide,Tryz.func48.trans (congrArg some (by kernel_rfl))⟩
 f14:=⟨Tryz.f91.name,by decide,Tryz.func91.trans (congrArg some (by kernel_rfl))⟩
 f15:=Tryz.func92.trans (congrArg some (by kernel_rfl))
 f20:=⟨Tryz.f136.name,by decide,Tryz.func136.trans (congrArg some (by kernel_rfl))⟩
 f21:=⟨Tryz.f137.name,by decide,Tryz.func137.trans (congrArg some (by kernel_rfl))⟩
 f22:=⟨Tryz.f138.name,by decide,Tryz.func138.trans (congrArg some (by kernel_rfl))⟩
 f23:=⟨Tryz.f139.name,by decide,Tryz.func139.trans (congrArg some (by kernel_rfl))⟩
 f24:=⟨Tryz.f140.name,by decide,Tryz.func140.trans (congrArg some (by kernel_rfl))⟩
 f25:=⟨Tryz.f141.name,by decide,Tryz.func141.trans (congrArg some (by kernel_rfl))⟩
 f26:=⟨Tryz.f142.name,by decide,Tryz.func142.trans (congrArg some (by kernel_rfl))⟩
 f27:=⟨Tryz.f143.name,by decide,Tryz.func143.trans (congrArg some (by kernel_rfl))⟩
 f28:=Tryz.func144.trans (congrArg some (by kernel_rfl))
 f29:=Tryz.func145.trans (congrArg some (by kernel_rfl))
 f46:=⟨Tryz.f161.name,by decide,Tryz.func161.trans (congrArg some (by kernel_rfl))⟩
 f47:=Tryz.func162.trans (congrArg some (by kernel_rfl))
 f48:=Tryz.func163.trans (congrArg some (by kernel_rfl))
 f49:=⟨Tryz.f164.name,by decide,Tryz.func164.trans (congrArg some (by kernel_rfl))⟩
 f50:=⟨Tryz.f165.name,by decide,Tryz.func165.trans (congrArg some (by kernel_rfl))⟩
 f57:=⟨Tryz.f181.name,by decide,Tryz.func181.trans (congrArg some (by kernel_rfl))⟩
 t0:=Tryz.underlying0
 a0:=Tryz.isAgg0
 z0:=Tryz.sizeOf0
 v0:=Tryz.zeroValue0
 t3:=Tryz.underlying3
 a3:=Tryz.isAgg3
 z3:=Tryz.sizeOf3
 v3:=Tryz.zeroValue3
 t4:=Tryz.underlying4
 a4:=Tryz.isAgg4
 z4:=Tryz.sizeOf4
 v4:=Tryz.zeroValue4
 t5:=Tryz.underlying5
 a5:=Tryz.isAgg5
 z5:=Tryz.sizeOf5
 v5:=Tryz.zeroValue5
 t9:=Tryz.underlying9
 a9:=Tryz.isAgg9
 z9:=Tryz.sizeOf9
 v9:=Tryz.zeroValue9
 t22:=Tryz.underlying35
 a22:=Tryz.isAgg35
 z22:=Tryz.sizeOf35
 v22:=Tryz.zeroValue35
 t25:=Tryz.underlying116
 a25:=Tryz.isAgg116
 z25:=Tryz.sizeOf116
 v25:=Tryz.zeroValue116
 t39:=Tryz.underlying159
 a39:=Tryz.isAgg159
 z39:=Tryz.sizeOf159
 v39:=Tryz.zeroValue159
 t45:=Tryz.underlying191
 a45:=Tryz.isAgg191
 z45:=Tryz.sizeOf191
 v45:=Tryz.zeroValue191
 t46:=Tryz.underlying192
 a46:=Tryz.isAgg192
 z46:=Tryz.sizeOf192
 v46:=Tryz.zeroValue192
 t50:=Tryz.underlying138
 a50:=Tryz.isAgg138
 z50:=Tryz.sizeOf138
 v50:=Tryz.zeroValue138
 t53:=Tryz.underlying22
 a53:=Tryz.isAgg22
 z53:=Tryz.sizeOf22
 v53:=Tryz.zeroValue22
 t55:=Tryz.underlying104
 a55:=Tryz.isAgg104
 z55:=Tryz.sizeOf104
 v55:=Tryz.zeroValue104
 t66:=Tryz.underlying211
 a66:=Tryz.isAgg211
 z66:=Tryz.sizeOf211
 v66:=Tryz.zeroValue211
 t70:=Tryz.underlying215
 a70:=Tryz.isAgg215
 z70:=Tryz.sizeOf215
 v70:=Tryz.zeroValue215
 t76:=Tryz.underlying227
 a76:=Tryz.isAgg227
 z76:=Tryz.sizeOf227
 v76:=Tryz.zeroValue227
 t77:=Tryz.underlying228
 a77:=Tryz.isAgg228
 z77:=Tryz.sizeOf228
 v77:=Tryz.zeroValue228 }
end Go.Proofs
namespace Go.Proofs.YtbjbjboehjdcaaaGreat
open Go.Vx Go.Sort Go.Proofs
theorem Qv4:SWO (ltOf QcF) where
 irrefl x:=by unfold ltOf;rw [decide_eq_false_iff_not,Qef,QcN];decide
 trans x y z h1 h2:=by unfold ltOf at *;rw [decide_eq_true_iff,Qef] at *;exact QdB h1 h2
 ntrans x y z h1 h2:=by unfold ltOf at *;rw [decide_eq_false_iff_not,Qef,Qdu] at *;omega
theorem QsQ:QgW Tryz.prog 48 49 cec 106 7 QjK :=
 Qn2 (J:=Tryz.sortE_ren) (k:=7) (T:=106) Tryz.sortE Tryz.isAgg106 Tryz.sizeOf106 (fun _=>rfl) Qa6 Qv4 Tryz.call49 (fun w x y=>Tt.order_ok w x y) (fun w=>AnyF.slices_SortFunc_none Tryz.sortE none 0 _ w)
end Go.Proofs.YtbjbjboehjdcaaaGreat
namespace Go.Proofs
open Go Go.Vx Go.RowKit
open Go.Sort (ltInt medianAdjacent order2 partition)
namespace Tt
theorem Qph (w:World) (x:Int):Calls Tryz.prog 127 #[.int .u16 x] w (fun e w'=>e = .returned (.bool false)/\Own w no w' []):=by
 refine Qaj (n:=6) Tryz.func127 rfl Tryz.ntmps127 rfl ?_
 have hs:=Own.start w
 refine Qag (Qab (Qaa (Qad (V:=.bool false) rfl (Qaf (Qag (Qab (Qaa (Qac (V:=I7 x) rfl (Qaa (Qac (V:=I7 x) rfl (Qaa (Qb7 rfl rfl (Qaa (Qad (V:=.bool (!decide (x=x))) rfl (Qaf (Qaw ?_))))))))))))))))
 refine ⟨_,Qaq (V:=.bool (!decide (x=x))) Tryz.results127 rfl,(Zr hs ?_)⟩
 simp
theorem Qcm (w:World) (x y:Int):Calls Tryz.prog 178 #[.int .u16 x,.int .u16 y] w (fun e w'=>e = .returned (.bool (decide (x<y)))/\Own w no w' []):=by
 refine Qaj (n:=17) Tryz.func178 rfl Tryz.ntmps178 rfl ?_
 have hs:=Own.start w
 refine Qag (Qab (Qaa (Qad (V:=.bool false) rfl (Qaf (Qag (Qbm [some 5,some 6,some 7,some 8,some 9,some 10,some 11,some 12,some 13,some 14,some 15,some 16,some 4] [] [0,1,3,7,15,31,63,127,255,255,1023,2047,4095] [pv (I7 x),pv (.bool false),pv (.bool false),pg false (.bool true),pg false (.bool true),pg false (.bool true),pv (.bool false),pv (.bool false),pv (I7 x),pv (I7 y),pv (.bool (decide (x<y))),pv (.bool (decide (x<y))),pv (.bool (decide (x<y)))] (fun _ _=>_) [12] (by kernel_rfl) hs ⟨?_,?_,?_,?_,?_,?_,?_,?_,?_,?_,?_,?_,?_,trivial⟩ ?_))))))
 ·exact oa [] fun D J w hs=>Qac (V:=.int .u16 x) rfl (Zz hs)
 ·exact oa [0] fun D J w hs=>Qau (vs:=[.int .u16 x]) (V:=.bool false) Qmg rfl rfl (Qph _ x) hs fun _ hs=>Zz hs
 ·exact oa [1] fun D J w hs=>Qac (V:=.bool false) rfl (Zz hs)
 ·exact obg [] [] false rfl (fun _=>rfl) rfl (fun _ _ _ _ h=>h) (fun _ _ _ h=>nomatch h)
 ·exact obg [] [] false rfl (fun _=>rfl) rfl (fun _ _ _ _ h=>h) (fun _ _ _ h=>nomatch h)
 ·exact obg [] [] false rfl (fun _=>rfl) rfl (fun _ _ _ _ h=>h) (fun _ _ _ h=>nomatch h)
 ·exact oa [2] fun D J w hs=>Qcy (V:=.bool false) rfl rfl (Zz hs)
 ·exact oa [6] fun D J w hs=>Qac (V:=.bool false) rfl (Zz hs)
 ·exact obg [7] [] false rfl (fun _=>rfl) rfl (fun _ _ _ h=>nomatch h) fun D J w _ hs=>Qac (V:=I7 x) rfl (Zz hs)
 ·exact obg [7] [] false rfl (fun _=>rfl) rfl (fun _ _ _ h=>nomatch h) fun D J w _ hs=>Qac (V:=I7 y) rfl (Zz hs)
 ·exact obg [7,8,9] [] false rfl (fun _=>rfl) rfl (fun _ _ _ h=>nomatch h) fun D J w _ hs=>QaS rfl rfl (Zz hs)
 ·exact oa [7,10] fun D J w hs=>Qcy (V:=.bool (decide (x<y))) rfl rfl (Zz hs)
 ·exact oa [11] fun D J w hs=>Qad (V:=.bool (decide (x<y))) rfl (Zz hs)
 rintro J1 w2 J2 hJ hs
 replace hJ:J2=upd (mix (sq 5 12++[4]) J1 _) 4 (.bool (decide (x<y))):=hJ
 subst hJ
 refine Qaw ?_
 refine ⟨_,Qaq (V:=.bool (decide (x<y))) Tryz.results178 rfl,(Zr hs ?_)⟩
 first|rfl|simp
theorem QqI {lo j:Nat} {d:Array Int} (h1:(lo:Int)<(j:Int)) (h2:d[j]!<d[j-1]!):Sort.insInner ltInt lo j d=Sort.insInner ltInt lo (j-1) (Sort.swp d j (j-1)):=by
 obtain ⟨i,rfl⟩:∃ i,j=i+1:=⟨j-1,by omega⟩
 rw [Nat.add_sub_cancel] at *
 rw [Sort.insInner,if_pos]
 simp [ltInt,h2];omega
theorem Qsr {lo j:Nat} {d:Array Int} (h:(decide ((lo:Int)<(j:Int))&&decide (d[j]!<d[j-1]!))=false):Sort.insInner ltInt lo j d=d:=by
 cases j with
 | zero=>rfl
 | succ i =>
  rw [Sort.insInner,if_neg]
  intro h2
  simp [ltInt] at h2 h
  have:=h (by omega)
  omega
theorem Qqo {lo hi k:Nat} {d:Array Int} (h:(k:Int)<(hi:Int)):Sort.insOuter ltInt lo hi k d=Sort.insOuter ltInt lo hi (k+1) (Sort.insInner ltInt lo k d):=by
 rw [Sort.insOuter,if_pos (by omega)]
theorem QsP {lo hi k:Nat} {d:Array Int} (h:¬(k:Int)<(hi:Int)):Sort.insOuter ltInt lo hi k d=d:=by
 rw [Sort.insOuter,if_neg (by omega)]
theorem Qtz (w:World) (S:Nat->Prop) (a:Option Addr) (N c:Nat) (d:Array Int) (hsz:d.size=N) (hN:N<=2305843009213693951) (lo hi:Nat) (h1:lo<=hi) (h2:hi<=N) (hR:(row (.slice a N c) (d.toList.map (ic .u16)) 32 1).holds w S) (hlt:∀ x,S x->x<w.heap.size):Calls Tryz.prog 172 #[.slice a N c,.int .i64 (lo:Int),.int .i64 (hi:Int)] w (fun e w'=>∃ x:Unit,e = .returned (.tuple #[])/\Own w S w' [row (.slice a N c) ((Sort.insertionSort ltInt d lo hi).toList.map (ic .u16)) 32 1]/\(Sort.insertionSort ltInt d lo hi).size=N):=by
 refine Qaj (n:=49) Tryz.func172 rfl Tryz.ntmps172 rfl ?_
 have hs:=Own.lent hR hlt
 refine Qag (Qab (Qaa (Qac (V:=I6 (lo:Int)) rfl (Qaa (QaD (a:=(lo:Int)) (b:=1) (c:=((lo+1:Nat):Int)) rfl rfl (Qak (by omega) (by omega)) (Qaa (Qad (V:=I6 ((lo+1:Nat):Int)) rfl (Qaf (Qam (QaA (fun J μ J' w'=>∃ (Jo:Env) (k:Nat) (d1:Array Int),J'=upd (mix ([6,7]++sq 10 39) Jo J) 6 (I6 (k:Int))/\(lo+1<=k)/\(k<=hi∨k=lo+1)/\(d1.size=N)/\(Sort.insOuter ltInt lo hi k d1=Sort.insertionSort ltInt d lo hi)/\μ=hi-k/\Own w S w' [row (.slice a N c) (d1.toList.map (ic .u16)) 32 1]) ?_ ?_))))))))))
 ·exact ⟨_,_,lo+1,d,Qai (Qao (ds:=([6,7]++sq 10 39)) (Agr.refl _ _)) rfl,(Nat.le_refl _),(Or.inr rfl),hsz,rfl,rfl,hs⟩
 rintro μ J' w1 ⟨Jo,k,d1,rfl,hk0,hk,hz1,hev,rfl,hs⟩
 refine Qag (Qag (Qab (Qaa (Qac (V:=I6 (k:Int)) rfl (Qaa (Qac (V:=I6 (hi:Int)) rfl (Qaa (QaS rfl rfl (Qaf (Qan (t:=decide ((k:Int)<(hi:Int))) rfl (fun c2=>?_) (fun c2=>?_)))))))))))
 ·
  replace c2:=QQ1 c2
  refine Qap (Qag (Qam (Qag (Qab (Qaa (Qac (V:=I6 (k:Int)) rfl (Qaa (Qad (V:=I6 (k:Int)) rfl (Qaf (Qam (QaA (fun J μ J' w'=>∃ (Jo:Env) (j:Nat) (d2:Array Int),J'=upd (mix ([7]++sq 16 33) Jo J) 7 (I6 (j:Int))/\(lo<=j)/\(j<=k)/\(d2.size=N)/\(Sort.insInner ltInt lo j d2=Sort.insInner ltInt lo k d1)/\μ=2*j/\Own w S w' [row (.slice a N c) (d2.toList.map (ic .u16)) 32 1]) ?_ ?_)))))))))))
  ·exact ⟨_,_,k,d1,Qai (Qao (ds:=([7]++sq 16 33)) (Agr.refl _ _)) rfl,(by omega),(Nat.le_refl _),hz1,rfl,rfl,hs⟩
  rintro μ J' w3 ⟨Jo,j,d2,rfl,hj0,hj,hz2,hin,rfl,hs⟩
  refine Qag (Qag (QaJ HM [some 16,some 17,some 18,some 19,some 20,some 21,some 22,some 23,some 24,some 25,some 26,some 27,some 28,some 29,some 30] [] [0,0,3,7,15,15,63,127,15,15,527,1807,3855,8191,16383] [pv (I6 (j:Int)),pv (I6 (lo:Int)),pv (.bool (decide ((lo:Int)<(j:Int)))),pv (.bool (decide ((lo:Int)<(j:Int)))),pg ((decide ((lo:Int)<(j:Int))) == true) (.slice a N c),pg ((decide ((lo:Int)<(j:Int))) == true) (I6 (j:Int)),pg ((decide ((lo:Int)<(j:Int))) == true) (.pointer (some ⟨bkS (.slice a N c),ofS (.slice a N c)+(j:Int).toNat*1,none⟩)),pg ((decide ((lo:Int)<(j:Int))) == true) (I7 (d2[j]!)),pg ((decide ((lo:Int)<(j:Int))) == true) (.slice a N c),pg ((decide ((lo:Int)<(j:Int))) == true) (I6 (j:Int)),pg ((decide ((lo:Int)<(j:Int))) == true) (I6 ((j-1:Nat):Int)),pg ((decide ((lo:Int)<(j:Int))) == true) (.pointer (some ⟨bkS (.slice a N c),ofS (.slice a N c)+((j-1:Nat):Int).toNat*1,none⟩)),pg ((decide ((lo:Int)<(j:Int))) == true) (I7 (d2[j-1]!)),pg ((decide ((lo:Int)<(j:Int))) == true) (.bool (decide (d2[j]!<d2[j-1]!))),pv (.bool ((decide ((lo:Int)<(j:Int)))&&(decide (d2[j]!<d2[j-1]!))))] (fun _ _=>_) [14] (by kernel_rfl) hs ⟨?_,?_,?_,?_,?_,?_,?_,?_,?_,?_,?_,?_,?_,?_,?_,trivial⟩ ?_))
  ·exact oa [] fun D J w hs=>Qac (V:=.int .i64 (j:Int)) rfl (Zz hs)
  ·exact oa [] fun D J w hs=>Qac (V:=.int .i64 (lo:Int)) rfl (Zz hs)
  ·exact oa [0,1] fun D J w hs=>QbW rfl rfl (Zz hs)
  ·exact oa [2] fun D J w hs=>Qac (V:=.bool (decide ((lo:Int)<(j:Int)))) rfl (Zz hs)
  ·refine og [3] fun D J w hG hs=>?_
   have hgd:=QQ1 (eq_of_beq hG)
   exact Qac (V:=.slice a N c) rfl (Zz hs)
  ·refine og [3] fun D J w hG hs=>?_
   have hgd:=QQ1 (eq_of_beq hG)
   exact Qac (V:=.int .i64 (j:Int)) rfl (Zz hs)
  ·refine oy [3,4,5] [4,5] fun D J w hG hs=>?_
   have hgd:=QQ1 (eq_of_beq hG)
   exact Qax QaO Qar.1 (hs.rd 0 rfl) rfl rfl (by omega) (by simp only [QQ6,QQ9,QQ5,Go.Sort.size_swp];omega) (Zz hs)
  ·refine oy [3,6] [6] fun D J w hG hs=>?_
   have hgd:=QQ1 (eq_of_beq hG)
   exact QaU (j:=0) (V:=.int .u16 (d2[j]!)) j Qar (hs.rd 0 rfl) (Qbq (by omega)) rfl rfl (by omega) (Zz hs)
  ·refine og [3] fun D J w hG hs=>?_
   have hgd:=QQ1 (eq_of_beq hG)
   exact Qac (V:=.slice a N c) rfl (Zz hs)
  ·refine og [3] fun D J w hG hs=>?_
   have hgd:=QQ1 (eq_of_beq hG)
   exact Qac (V:=.int .i64 (j:Int)) rfl (Zz hs)
  ·refine oy [3,9] [9] fun D J w hG hs=>?_
   have hgd:=QQ1 (eq_of_beq hG)
   exact Qba (a:=(j:Int)) (b:=1) (c:=((j-1:Nat):Int)) rfl rfl (Qak (by omega) (by omega)) (Zz hs)
  ·refine oy [3,8,10] [8,10] fun D J w hG hs=>?_
   have hgd:=QQ1 (eq_of_beq hG)
   exact Qax QaO Qar.1 (hs.rd 0 rfl) rfl rfl (by omega) (by simp only [QQ6,QQ9,QQ5,Go.Sort.size_swp];omega) (Zz hs)
  ·refine oy [3,11] [11] fun D J w hG hs=>?_
   have hgd:=QQ1 (eq_of_beq hG)
   exact QaU (j:=0) (V:=.int .u16 (d2[j-1]!)) (j-1) Qar (hs.rd 0 rfl) (Qbq (by omega)) rfl rfl (by omega) (Zz hs)
  ·refine oy [3,7,12] [7,12] fun D J w hG hs=>?_
   have hgd:=QQ1 (eq_of_beq hG)
   exact Qau (vs:=[.int .u16 (d2[j]!),.int .u16 (d2[j-1]!)]) (V:=.bool (decide (d2[j]!<d2[j-1]!))) Qc4 rfl rfl (Qcm _ (d2[j]!) (d2[j-1]!)) hs fun _ hs=>Zz hs
  ·exact oa [3,13] fun D J w hs=>Qa7 (h':=decide (d2[j]!<d2[j-1]!)) rfl rfl rfl (Zz hs)
  rintro J1 w5 J2 hJ hs
  replace hJ:J2=upd (mix (sq 16 15) J1 _) 30 (.bool ((decide ((lo:Int)<(j:Int)))&&(decide (d2[j]!<d2[j-1]!)))):=hJ
  subst hJ
  refine Qan (t:=(decide ((lo:Int)<(j:Int)))&&(decide (d2[j]!<d2[j-1]!))) rfl (fun c6=>?_) (fun c6=>?_)
  ·
   have c6r:=QbG c6
   replace c6:=QbC c6
   replace c6:=QQ1 c6
   replace c6r:=QQ1 c6r
   refine Qap (Qag (Qam (QaJ HM [some 33,some 34,some 35,some 36,some 37,some 38,some 39,some 40,some 41,some 42,some 43,some 44,some 45,some 46,some 47,none,some 48,none] [] [0,0,0,0,8,0,0,64,224,480,0,0,3072,7168,16355,32739,65535,131071] [pv (.slice a N c),pv (I6 (j:Int)),pv (.slice a N c),pv (I6 (j:Int)),pv (I6 ((j-1:Nat):Int)),pv (.slice a N c),pv (I6 (j:Int)),pv (I6 ((j-1:Nat):Int)),pv (.pointer (some ⟨bkS (.slice a N c),ofS (.slice a N c)+((j-1:Nat):Int).toNat*1,none⟩)),pv (I7 (d2[j-1]!)),pv (.slice a N c),pv (I6 (j:Int)),pv (.pointer (some ⟨bkS (.slice a N c),ofS (.slice a N c)+(j:Int).toNat*1,none⟩)),pv (I7 (d2[j]!)),pv (.pointer (some ⟨bkS (.slice a N c),ofS (.slice a N c)+(j:Int).toNat*1,none⟩)),pn,pv (.pointer (some ⟨bkS (.slice a N c),ofS (.slice a N c)+((j-1:Nat):Int).toNat*1,none⟩)),pn] (fun D J=>[cond (D 17) (row (.slice a N c) ((((d2.setIfInBounds j (d2[j-1]!)).setIfInBounds (j-1) (d2[j]!)).toList).map (ic .u16)) 32 1) (cond (D 15) (row (.slice a N c) (((d2.setIfInBounds j (d2[j-1]!)).toList).map (ic .u16)) 32 1) (row (.slice a N c) (d2.toList.map (ic .u16)) 32 1))]) [] (by kernel_rfl) hs ⟨?_,?_,?_,?_,?_,?_,?_,?_,?_,?_,?_,?_,?_,?_,?_,?_,?_,?_,trivial⟩ ?_)))
   ·exact oa [] fun D J w hs=>Qac (V:=.slice a N c) rfl (Zz hs)
   ·exact oa [] fun D J w hs=>Qac (V:=.int .i64 (j:Int)) rfl (Zz hs)
   ·exact oa [] fun D J w hs=>Qac (V:=.slice a N c) rfl (Zz hs)
   ·exact oa [] fun D J w hs=>Qac (V:=.int .i64 (j:Int)) rfl (Zz hs)
   ·exact oa [3] fun D J w hs=>Qba (a:=(j:Int)) (b:=1) (c:=((j-1:Nat):Int)) rfl rfl (Qak (by omega) (by omega)) (Zz hs)
   ·exact oa [] fun D J w hs=>Qac (V:=.slice a N c) rfl (Zz hs)
   ·exact oa [] fun D J w hs=>Qac (V:=.int .i64 (j:Int)) rfl (Zz hs)
   ·exact oa [6] fun D J w hs=>Qba (a:=(j:Int)) (b:=1) (c:=((j-1:Nat):Int)) rfl rfl (Qak (by omega) (by omega)) (Zz hs)
   ·exact ob [5,7] [15,17] rfl rfl fun D J w hs=>Qax QaO Qar.1 (hs.rd 0 rfl) rfl rfl (by omega) (by simp only [QQ6,QQ9,QQ5,Go.Sort.size_swp];omega) (Zz hs)
   ·exact ob [8] [15,17] rfl rfl fun D J w hs=>QaU (j:=0) (V:=I7 (d2[j-1]!)) (j-1) Qar (hs.rd 0 rfl) (Qbq (by omega)) rfl rfl (by omega) (Zz hs)
   ·exact oa [] fun D J w hs=>Qac (V:=.slice a N c) rfl (Zz hs)
   ·exact oa [] fun D J w hs=>Qac (V:=.int .i64 (j:Int)) rfl (Zz hs)
   ·exact ob [10,11] [15,17] rfl rfl fun D J w hs=>Qax QaO Qar.1 (hs.rd 0 rfl) rfl rfl (by omega) (by simp only [QQ6,QQ9,QQ5,Go.Sort.size_swp];omega) (Zz hs)
   ·exact ob [12] [15,17] rfl rfl fun D J w hs=>QaU (j:=0) (V:=I7 (d2[j]!)) j Qar (hs.rd 0 rfl) (Qbq (by omega)) rfl rfl (by omega) (Zz hs)
   ·exact ob [0,1] [15,17] rfl rfl fun D J w hs=>Qax QaO Qar.1 (hs.rd 0 rfl) rfl rfl (by omega) (by simp only [QQ6,QQ9,QQ5,Go.Sort.size_swp];omega) (Zz hs)
   ·exact ob [9,14] [17] rfl rfl fun D J w hs=>Qci (z:=d2[j-1]!) j Qar hs 0 rfl rfl (by omega) (by first|omega|(simp only [QQ5,Go.Sort.size_swp];omega)) rfl rfl rfl fun _ hs=>⟨trivial,hs⟩
   ·exact ob [2,4,15] [17] rfl rfl fun D J w hs=>Qax QaO Qar.1 (hs.rd 0 rfl) rfl rfl (by omega) (by simp only [QQ6,QQ9,QQ5,Go.Sort.size_swp];omega) (Zz hs)
   ·exact oa [13,15,16] fun D J w hs=>Qci (z:=d2[j]!) (j-1) Qar hs 0 rfl rfl (by omega) (by first|omega|(simp only [QQ5,Go.Sort.size_swp];omega)) rfl rfl rfl fun _ hs=>⟨trivial,hs⟩
   rintro J1 w9 J2 hJ hs
   replace hJ:J2=mix (sq 33 16) J1 _:=hJ
   replace hs:Own w S w9 [row (.slice a N c) ((((d2.setIfInBounds j (d2[j-1]!)).setIfInBounds (j-1) (d2[j]!)).toList).map (ic .u16)) 32 1]:=hs
   subst hJ
   refine Qab (Qaa (Qac (V:=I6 (j:Int)) rfl (Qaa (Qba (a:=(j:Int)) (b:=1) (c:=((j-1:Nat):Int)) rfl rfl (Qak (by omega) (by omega)) (Qaa (Qad (V:=I6 ((j-1:Nat):Int)) rfl (Qaf ?_)))))))
   refine ⟨_,?_,_,j-1,((d2.setIfInBounds j (d2[j-1]!)).setIfInBounds (j-1) (d2[j]!)),Qai (Qao (ds:=([7]++sq 16 33)) (by repeat (first|exact Agr.refl _ _|refine Agr.upd ?_ rfl|refine Agr.mix ?_ rfl))) rfl,(by omega),(by omega),(by simp only [QQ5];exact hz2),(by rw [← hin];exact (QqI c6 c6r).symm),rfl,hs.take 1⟩
   omega
  refine QaH (Qab (Qaa (Qac (V:=I6 (k:Int)) rfl (Qaa (QaD (a:=(k:Int)) (b:=1) (c:=((k+1:Nat):Int)) rfl rfl (Qak (by omega) (by omega)) (Qaa (Qad (V:=I6 ((k+1:Nat):Int)) rfl (Qaf ?_))))))))
  refine ⟨_,?_,_,k+1,d2,Qai (Qao (ds:=([6,7]++sq 10 39)) (by repeat (first|exact Agr.refl _ _|refine Agr.upd ?_ rfl|refine Agr.mix ?_ rfl))) rfl,(by omega),(by omega),hz2,(by rw [← hev,Qqo (d:=d1) c2,← hin,Qsr c6]),rfl,hs.take 1⟩
  omega
 replace c2:=QQ2 c2
 refine QaH ?_
 refine ⟨_,Qbr Tryz.results172,?_⟩
 have hX:d1=Sort.insertionSort ltInt d lo hi:=by rw [← hev,QsP c2]
 exact ⟨(),rfl,hX ▸ hs.take 1,hX ▸ (by first|assumption|(simp only [QQ5,Go.Sort.size_swp];omega))⟩
end Tt
end Go.Proofs
