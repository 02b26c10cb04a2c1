/- A part of a proof: what functions of the program compute, and plain facts on that. -/
import Derived.Test.YtbjbjboehjdcaaaGreatCutsBaseP5
set_option linter.unusedVariables false
set_option linter.unusedSimpArgs false
set_option maxHeartbeats 4000000
set_option maxRecDepth 100000
namespace Go.Proofs
open Go Go.Vx Go.RowKit
namespace Tt
theorem QnF (w:World) (S:Nat->Prop) (b:Nat) (L:List Dif) (va:Int) (la:List Line) (ao:Bool) (at_:Int) (aa:Option Addr) (ca:Nat) (vb:Int) (lb:List Line) (bo:Bool) (bt:Int) (ab:Option Addr) (cb:Nat) (hra:QfH la) (hrb:QfH lb) (hna:la.length<=100000) (hnb:lb.length<=100000) (hva:∀ (w1:World) (L1:List Res),Own w S w1 L1->Rd w1 (.slice aa la.length ca) 2 (la.map lc)) (hvb:∀ (w1:World) (L1:List Res),Own w S w1 L1->Rd w1 (.slice ab lb.length cb) 2 (lb.map lc)) (hR:(Qev 60 83 b L).holds w S) (hlS:∀ x,S x->x<w.heap.size) (hL:L.length<=10000000):Calls Tryz.prog 64 #[.agg #[.int .u16 va,.slice aa la.length ca,.bool ao,.int .u32 at_],.agg #[.int .u16 vb,.slice ab lb.length cb,.bool bo,.int .u32 bt],.func (.func 65) #[] #[.pointer (some ⟨b,0,none⟩)]] w (fun e w'=>∃ x_:Unit,e = .returned (.tuple #[])/\Own w S w' [Qev 60 83 b (L++QeF (⟨va,la,ao,at_⟩:Vw) (⟨vb,lb,bo,bt⟩:Vw))]/\True):=by
 refine Qaj (n:=126) Tryz.func64 rfl Tryz.ntmps64 rfl ?_
 have hs:=Own.lent hR hlS
 refine Qag (Qab (Qaa (Qa5 (V:=.agg #[I7 va,.slice aa la.length ca,.bool ao,.int .u32 at_]) (cs:=[I7 va,.slice aa la.length ca,.bool ao,.int .u32 at_]) rfl rfl hs fun b1 w2 hs=>(Qaa (Qa5 (V:=.agg #[I7 vb,.slice ab lb.length cb,.bool bo,.int .u32 bt]) (cs:=[I7 vb,.slice ab lb.length cb,.bool bo,.int .u32 bt]) rfl rfl hs fun b3 w4 hs=>(Qae (Qag (QaI HM [some 9,some 10,some 11,some 12,some 6,some 7] [] [0,1,0,4,3,31] [pv (Pq b1 (0+1)),pv (.slice aa la.length ca),pv (Pq b3 (0+1)),pv (.slice ab lb.length cb),pv (.slice aa la.length ca),pv (.slice ab lb.length cb)] (fun _ _=>_) [5,4] (by kernel_rfl) hs ⟨?_,?_,?_,?_,?_,?_,trivial⟩ ?_))))))))
 ·exact oa [] fun D J w hs=>Qaf Qc6 rfl (Zz hs)
 ·exact oa [0] fun D J w hs=>QaQ (V:=.slice aa la.length ca) QgF hs 1 rfl rfl rfl (Zz hs)
 ·exact oa [] fun D J w hs=>Qaf Qc6 rfl (Zz hs)
 ·exact oa [2] fun D J w hs=>QaQ (V:=.slice ab lb.length cb) QgF hs 2 rfl rfl rfl (Zz hs)
 ·exact oa [1] fun D J w hs=>Qad (V:=.slice aa la.length ca) rfl (Zz hs)
 ·exact oa [3] fun D J w hs=>Qad (V:=.slice ab lb.length cb) rfl (Zz hs)
 rintro J1 w5 J2 hJ hs
 replace hJ:J2=upd (upd (mix [9,10,11,12,6,7] J1 _) 6 (.slice aa la.length ca)) 7 (.slice ab lb.length cb):=hJ
 subst hJ
 refine Qag (Qan (QaG (fun J μ J' w'=>∃ (Jo:Env) (R1:List Line) (R2:List Line) (I:List Int) (out:List Dif) (a6:Option Addr) (cb6:Nat) (a7:Option Addr) (cb7:Nat),J'=upd (upd (mix ([6,7,8]++sq 13 97) Jo J) 6 (.slice a6 R1.length cb6)) 7 (.slice a7 R2.length cb7)/\(DifI la lb R1 R2 I)/\(out=L++I.flatMap (QiM vb la lb))/\(∀ (w1:World) (L1:List Res),Own w S w1 L1->Rd w1 (.slice a6 R1.length cb6) 2 (R1.map lc))/\(∀ (w1:World) (L1:List Res),Own w S w1 L1->Rd w1 (.slice a7 R2.length cb7) 2 (R2.map lc))/\(R1.length<=la.length/\R2.length<=lb.length)/\(out.length+(R1.length+R2.length)<=L.length+(la.length+lb.length))/\μ=R1.length+R2.length/\Own w S w' [Qev 60 83 b out,blk b1 [I7 va,.slice aa la.length ca,.bool ao,.int .u32 at_] 49,blk b3 [I7 vb,.slice ab lb.length cb,.bool bo,.int .u32 bt] 49]) ?_ ?_))
 ·exact ⟨_,_,la,lb,[],L,aa,ca,ab,cb,Qal (Qal (Qap (ds:=([6,7,8]++sq 13 97)) (Agr.refl _ _)) rfl) rfl,(Qk8 _ _),(by simp),hva,hvb,(by omega),(by omega),rfl,hs⟩
 rintro μ J' w6 ⟨Jo,R1,R2,I,out,a6,cb6,a7,cb7,rfl,hdi,hout,hv6,hv7,hll,hol,rfl,hs⟩
 have hrr:=QpD hra hrb hdi
 have hmm:=Qod hdi
 refine Qag (Qag (Qbv [some 13,some 14,some 15,some 16,some 17,some 18,some 19,some 20] [] [0,1,3,7,15,31,63,127] [pv (.slice a6 R1.length cb6),pv (I6 ((R1.length:Nat):Int)),pv (.bool (decide (0<((R1.length:Nat):Int)))),pv (.bool (decide (0<((R1.length:Nat):Int)))),pg ((decide (0<((R1.length:Nat):Int))) == false) (.slice a7 R2.length cb7),pg ((decide (0<((R1.length:Nat):Int))) == false) (I6 ((R2.length:Nat):Int)),pg ((decide (0<((R1.length:Nat):Int))) == false) (.bool (decide (0<((R2.length:Nat):Int)))),pv (.bool ((decide (0<((R1.length:Nat):Int)))||(decide (0<((R2.length:Nat):Int)))))] (fun _ _=>_) [7] (by kernel_rfl) hs ⟨?_,?_,?_,?_,?_,?_,?_,?_,trivial⟩ ?_))
 ·exact oa [] fun D J w hs=>Qac (V:=.slice a6 R1.length cb6) rfl (Zz hs)
 ·exact oa [0] fun D J w hs=>Qa3 (n:=R1.length) Qdc (hv6 _ _ hs) (by simp) rfl (Zz hs)
 ·exact oa [1] fun D J w hs=>Qb2 rfl rfl (Zz hs)
 ·exact oa [2] fun D J w hs=>Qac (V:=.bool (decide (0<((R1.length:Nat):Int)))) rfl (Zz hs)
 ·exact og [3] fun D J w hG hs=>Qac (V:=.slice a7 R2.length cb7) rfl (Zz hs)
 ·exact oy [3,4] [4] fun D J w hG hs=>Qa3 (n:=R2.length) Qdc (hv7 _ _ hs) (by simp) rfl (Zz hs)
 ·exact oy [3,5] [5] fun D J w hG hs=>Qb2 rfl rfl (Zz hs)
 ·exact oa [3,6] fun D J w hs=>Qb4 (h':=decide (0<((R2.length:Nat):Int))) rfl rfl rfl (Zz hs)
 rintro J1 w7 J2 hJ hs
 replace hJ:J2=upd (mix (sq 13 8) J1 _) 20 (.bool ((decide (0<((R1.length:Nat):Int)))||(decide (0<((R2.length:Nat):Int))))):=hJ
 subst hJ
 refine Qam (t:=(decide (0<((R1.length:Nat):Int)))||(decide (0<((R2.length:Nat):Int)))) rfl (fun c8=>?_) (fun c8=>?_)
 ·
  refine Qaq (Qan (Qag (Qab (Qaa (Qaf Qhi rfl (Qaa (QaQ (V:=I7 vb) Qat hs 2 rfl rfl rfl (Qaa (QbI (vs:=[(0,I7 vb)]) (cs:=dfc (⟨vb,0,false,0,0⟩:Dif)) QrD (rfl) rfl (Qaa (QaM (cs:=dfc (⟨0,0,false,0,0⟩:Dif)) Qvt rfl hs fun b9 w10 hs=>(Qaa (QcG (V:=.agg (dfc (⟨vb,0,false,0,0⟩:Dif)).toArray) (vs:=dfc (⟨vb,0,false,0,0⟩:Dif)) (cs':=dfc (⟨vb,0,false,0,0⟩:Dif)) Qjs.1 hs 3 rfl rfl rfl rfl rfl (QQ8 rfl) (Qjg _) (QaA rfl) fun w11 hs=>?_)))))))))))))
  replace hs:Own w S w11 [Qev 60 83 b out,blk b1 [I7 va,.slice aa la.length ca,.bool ao,.int .u32 at_] 49,blk b3 [I7 vb,.slice ab lb.length cb,.bool bo,.int .u32 bt] 49,blk b9 (dfc (⟨vb,0,false,0,0⟩:Dif)) 83]:=hs
  refine Qae (Qag (Qan (Qag (QaI HM [some 44,some 45,some 46,some 47,some 48,some 49,some 50,some 51,some 52,some 53,some 54,some 55,some 56,some 57,some 58,some 59,some 60,some 61,some 62,some 43] [] [0,1,3,7,15,31,63,127,255,511,1023,2047,255,4351,12543,28927,65535,131071,262143,524287] [pv (.slice a7 R2.length cb7),pv (I6 ((R2.length:Nat):Int)),pv (.bool (decide (((R2.length:Nat):Int)=0))),pv (.bool (decide (((R2.length:Nat):Int)=0))),pg ((decide (((R2.length:Nat):Int)=0)) == false) (.slice a6 R1.length cb6),pg ((decide (((R2.length:Nat):Int)=0)) == false) (I6 ((R1.length:Nat):Int)),pg ((decide (((R2.length:Nat):Int)=0)) == false) (.bool (decide (0<((R1.length:Nat):Int)))),pg ((decide (((R2.length:Nat):Int)=0)) == false) (.bool (decide (0<((R1.length:Nat):Int)))),pg (((decide (((R2.length:Nat):Int)=0)) == false)&&((decide (0<((R1.length:Nat):Int))) == true)) (.slice a6 R1.length cb6),pg (((decide (((R2.length:Nat):Int)=0)) == false)&&((decide (0<((R1.length:Nat):Int))) == true)) (.pointer (some ⟨bkS (.slice a6 R1.length cb6),ofS (.slice a6 R1.length cb6)+(0:Int).toNat*2,none⟩)),pg (((decide (((R2.length:Nat):Int)=0)) == false)&&((decide (0<((R1.length:Nat):Int))) == true)) (.pointer (some ⟨bkS (.slice a6 R1.length cb6),ofS (.slice a6 R1.length cb6)+(0:Int).toNat*2+0,none⟩)),pg (((decide (((R2.length:Nat):Int)=0)) == false)&&((decide (0<((R1.length:Nat):Int))) == true)) (I7 ((gd R1 0).item)),pg (((decide (((R2.length:Nat):Int)=0)) == false)&&((decide (0<((R1.length:Nat):Int))) == true)) (.slice a7 R2.length cb7),pg (((decide (((R2.length:Nat):Int)=0)) == false)&&((decide (0<((R1.length:Nat):Int))) == true)) (.pointer (some ⟨bkS (.slice a7 R2.length cb7),ofS (.slice a7 R2.length cb7)+(0:Int).toNat*2,none⟩)),pg (((decide (((R2.length:Nat):Int)=0)) == false)&&((decide (0<((R1.length:Nat):Int))) == true)) (.pointer (some ⟨bkS (.slice a7 R2.length cb7),ofS (.slice a7 R2.length cb7)+(0:Int).toNat*2+0,none⟩)),pg (((decide (((R2.length:Nat):Int)=0)) == false)&&((decide (0<((R1.length:Nat):Int))) == true)) (I7 ((gd R2 0).item)),pg (((decide (((R2.length:Nat):Int)=0)) == false)&&((decide (0<((R1.length:Nat):Int))) == true)) (.bool (decide ((gd R1 0).item<(gd R2 0).item))),pg ((decide (((R2.length:Nat):Int)=0)) == false) (.bool ((decide (0<((R1.length:Nat):Int)))&&(decide ((gd R1 0).item<(gd R2 0).item)))),pv (.bool ((decide (((R2.length:Nat):Int)=0))||((decide (0<((R1.length:Nat):Int)))&&(decide ((gd R1 0).item<(gd R2 0).item))))),pv (.bool ((decide (((R2.length:Nat):Int)=0))||((decide (0<((R1.length:Nat):Int)))&&(decide ((gd R1 0).item<(gd R2 0).item)))))] (fun _ _=>_) [19] (by kernel_rfl) hs ⟨?_,?_,?_,?_,?_,?_,?_,?_,?_,?_,?_,?_,?_,?_,?_,?_,?_,?_,?_,?_,trivial⟩ ?_))))
  ·exact oa [] fun D J w hs=>Qac (V:=.slice a7 R2.length cb7) rfl (Zz hs)
  ·exact oa [0] fun D J w hs=>Qa3 (n:=R2.length) Qdc (hv7 _ _ hs) (by simp) rfl (Zz hs)
  ·exact oa [1] fun D J w hs=>Qa1 rfl rfl (Zz hs)
  ·exact oa [2] fun D J w hs=>Qac (V:=.bool (decide (((R2.length:Nat):Int)=0))) rfl (Zz hs)
  ·exact og [3] fun D J w hG hs=>Qac (V:=.slice a6 R1.length cb6) rfl (Zz hs)
  ·exact oy [3,4] [4] fun D J w hG hs=>Qa3 (n:=R1.length) Qdc (hv6 _ _ hs) (by simp) rfl (Zz hs)
  ·exact oy [3,5] [5] fun D J w hG hs=>Qb2 rfl rfl (Zz hs)
  ·exact oy [3,6] [6] fun D J w hG hs=>Qac (V:=.bool (decide (0<((R1.length:Nat):Int)))) rfl (Zz hs)
  ·exact og [7] fun D J w hG hs=>Qac (V:=.slice a6 R1.length cb6) rfl (Zz hs)
  ·refine oy [7,8] [8] fun D J w hG hs=>?_
   have hgd0:=QQ2 (eq_of_beq (Qb1 (hG)))
   have hgd1:=QQ1 (eq_of_beq (QcB (hG)))
   exact Qax Qdc Qck.1 (hv6 _ _ hs) rfl rfl (by decide) (by rw [QQ6];omega) (Zz hs)
  ·exact oy [7,9] [9] fun D J w hG hs=>Qaf QdG rfl (Zz hs)
  ·refine oy [7,10] [10] fun D J w hG hs=>?_
   have hgd0:=QQ2 (eq_of_beq (Qb1 (hG)))
   have hgd1:=QQ1 (eq_of_beq (QcB (hG)))
   exact QaW (j:=0) (V:=.int .u16 ((gd R1 0).item)) 0 Qat (hv6 _ _ hs) (Qba (by omega)) rfl rfl (by omega) (Zz hs)
  ·exact og [7] fun D J w hG hs=>Qac (V:=.slice a7 R2.length cb7) rfl (Zz hs)
  ·refine oy [7,12] [12] fun D J w hG hs=>?_
   have hgd0:=QQ2 (eq_of_beq (Qb1 (hG)))
   have hgd1:=QQ1 (eq_of_beq (QcB (hG)))
   exact Qax Qdc Qck.1 (hv7 _ _ hs) rfl rfl (by decide) (by rw [QQ6];omega) (Zz hs)
  ·exact oy [7,13] [13] fun D J w hG hs=>Qaf QdG rfl (Zz hs)
  ·refine oy [7,14] [14] fun D J w hG hs=>?_
   have hgd0:=QQ2 (eq_of_beq (Qb1 (hG)))
   have hgd1:=QQ1 (eq_of_beq (QcB (hG)))
   exact QaW (j:=0) (V:=.int .u16 ((gd R2 0).item)) 0 Qat (hv7 _ _ hs) (Qba (by omega)) rfl rfl (by omega) (Zz hs)
  ·exact oy [7,11,15] [11,15] fun D J w hG hs=>Qa2 rfl rfl (Zz hs)
  ·exact oy [3,7,16] [7] fun D J w hG hs=>Qj7 (h':=decide ((gd R1 0).item<(gd R2 0).item)) (G:=((decide (((R2.length:Nat):Int)=0)) == false)) hG rfl rfl rfl (Zz hs)
  ·exact oa [3,17] fun D J w hs=>Qb4 (h':=(decide (0<((R1.length:Nat):Int)))&&(decide ((gd R1 0).item<(gd R2 0).item))) rfl rfl rfl (Zz hs)
  ·exact oa [18] fun D J w hs=>Qad (V:=.bool ((decide (((R2.length:Nat):Int)=0))||((decide (0<((R1.length:Nat):Int)))&&(decide ((gd R1 0).item<(gd R2 0).item))))) rfl (Zz hs)
  rintro J1 w12 J2 hJ hs
  replace hJ:J2=upd (mix (sq 44 19++[43]) J1 _) 43 (.bool ((decide (((R2.length:Nat):Int)=0))||((decide (0<((R1.length:Nat):Int)))&&(decide ((gd R1 0).item<(gd R2 0).item))))):=hJ
  subst hJ
  refine Qam (t:=(decide (((R2.length:Nat):Int)=0))||((decide (0<((R1.length:Nat):Int)))&&(decide ((gd R1 0).item<(gd R2 0).item)))) rfl (fun c13=>?_) (fun c13=>?_)
  ·
   refine Qag ?_
   have ⟨hn9,hz9⟩:=QvL c8 c13
   refine QaI HM [some 63,some 64,some 65,some 66,some 67,some 68,some 69,some 70,some 71,none,some 72,none] [] [0,1,3,7,0,16,48,112,15,271,1023,2047] [pv (.slice a6 R1.length cb6),pv (.pointer (some ⟨bkS (.slice a6 R1.length cb6),ofS (.slice a6 R1.length cb6)+(0:Int).toNat*2,none⟩)),pv (.pointer (some ⟨bkS (.slice a6 R1.length cb6),ofS (.slice a6 R1.length cb6)+(0:Int).toNat*2+0,none⟩)),pv (I7 ((gd R1 0).item)),pv (.slice a6 R1.length cb6),pv (.pointer (some ⟨bkS (.slice a6 R1.length cb6),ofS (.slice a6 R1.length cb6)+(0:Int).toNat*2,none⟩)),pv (.pointer (some ⟨bkS (.slice a6 R1.length cb6),ofS (.slice a6 R1.length cb6)+(0:Int).toNat*2+1,none⟩)),pv (.int .u32 ((gd R1 0).qty)),pv (Pq b9 (0+1)),pn,pv (Pq b9 (0+3)),pn] (fun D J=>[Qev 60 83 b out,blk b1 [I7 va,.slice aa la.length ca,.bool ao,.int .u32 at_] 49,blk b3 [I7 vb,.slice ab lb.length cb,.bool bo,.int .u32 bt] 49,cond (D 11) (blk b9 (dfc (⟨vb,(gd R1 0).item,false,(gd R1 0).qty,0⟩:Dif)) 83) (cond (D 9) (blk b9 (dfc (⟨vb,(gd R1 0).item,false,0,0⟩:Dif)) 83) (blk b9 (dfc (⟨vb,0,false,0,0⟩:Dif)) 83))]) [] (by kernel_rfl) hs ⟨?_,?_,?_,?_,?_,?_,?_,?_,?_,?_,?_,?_,trivial⟩ ?_
   ·exact oa [] fun D J w hs=>Qac (V:=.slice a6 R1.length cb6) rfl (Zz hs)
   ·exact oa [0] fun D J w hs=>Qax Qdc Qck.1 (hv6 _ _ hs) rfl rfl (by decide) (by rw [QQ6];omega) (Zz hs)
   ·exact oa [1] fun D J w hs=>Qaf QdG rfl (Zz hs)
   ·exact oa [2] fun D J w hs=>QaW (j:=0) (V:=.int .u16 ((gd R1 0).item)) 0 Qat (hv6 _ _ hs) (Qba (by omega)) rfl rfl (by omega) (Zz hs)
   ·exact oa [] fun D J w hs=>Qac (V:=.slice a6 R1.length cb6) rfl (Zz hs)
   ·exact oa [4] fun D J w hs=>Qax Qdc Qck.1 (hv6 _ _ hs) rfl rfl (by decide) (by rw [QQ6];omega) (Zz hs)
   ·exact oa [5] fun D J w hs=>Qaf QfS rfl (Zz hs)
   ·exact oa [6] fun D J w hs=>QaW (j:=1) (V:=.int .u32 ((gd R1 0).qty)) 0 QaU (hv6 _ _ hs) (Qba (by omega)) rfl rfl (by omega) (Zz hs)
   ·exact oa [] fun D J w hs=>Qaf Qjm rfl (Zz hs)
   ·exact ob [3,8] [11] rfl rfl fun D J w hs=>Qc0 (V:=I7 ((gd R1 0).item)) (cs':=dfc (⟨vb,(gd R1 0).item,false,0,0⟩:Dif)) Qat hs 3 rfl rfl rfl rfl (QQ8 rfl) rfl fun _ hs=>⟨trivial,hs⟩
   ·exact oa [] fun D J w hs=>Qaf Qgg rfl (Zz hs)
   ·exact oa [7,9,10] fun D J w hs=>Qc0 (V:=.int .u32 ((gd R1 0).qty)) (cs':=dfc (⟨vb,(gd R1 0).item,false,(gd R1 0).qty,0⟩:Dif)) QaU hs 3 rfl rfl rfl rfl (QQ8 rfl) rfl fun _ hs=>⟨trivial,hs⟩
   rintro J1 w16 J2 hJ hs
   replace hJ:J2=mix (sq 63 10) J1 _:=hJ
   replace hs:Own w S w16 [Qev 60 83 b out,blk b1 [I7 va,.slice aa la.length ca,.bool ao,.int .u32 at_] 49,blk b3 [I7 vb,.slice ab lb.length cb,.bool bo,.int .u32 bt] 49,blk b9 (dfc (⟨vb,(gd R1 0).item,false,(gd R1 0).qty,0⟩:Dif)) 83]:=hs
   subst hJ
   refine Qab (Qaa (Qac (V:=.slice a6 R1.length cb6) rfl (Qaa (QkL (l:=1) (h:=R1.length) (m:=cb6) (n':=(R1.drop 1).length) QjG Qck.1 (hv6 _ _ hs) rfl (.inr ⟨_,_,rfl,rfl⟩) (.inl ⟨rfl,rfl⟩) (.inl ⟨rfl,rfl⟩) (by omega) (by omega) (Nat.le_trans (show R1.length<=R1.length by omega) (Rd.roomM (hv6 _ _ hs))) (Nat.le_refl _) (by simp only [List.length_take,List.length_drop]<;>omega) ?_))))
   refine Qaa (Qad (V:=.slice (sla a6 1 cb6 2) ((R1.drop 1).length) (cb6-1)) rfl (Qae (Qag (Qab (Qaa (Qaf Qgg rfl (Qaa (QaQ (V:=.int .u32 ((gd R1 0).qty)) QaU hs 3 rfl rfl rfl (Qaa (Qaf Qf1 rfl (Qaa (QaQ (V:=.int .u32 0) QaU hs 3 rfl rfl rfl (Qaa (Qcq rfl rfl (Qae (Qam (t:=!decide ((gd R1 0).qty=0)) rfl (fun c17=>?_) (fun c17=>?_)))))))))))))))))
   ·
    replace c17:=Qby c17
    replace c17:=QQ2 c17
    refine Qab (Qaa (Qac (V:=.func (.func 65) #[] #[Pq b 0]) rfl (Qaa (QaP (cs:=dfc (⟨vb,(gd R1 0).item,false,(gd R1 0).qty,0⟩:Dif)) Qjs hs 3 rfl rfl rfl (Qaa (Qpa (α:=Unit) (vs:=[.agg (dfc (⟨vb,(gd R1 0).item,false,(gd R1 0).qty,0⟩:Dif)).toArray]) (cs:=[Pq b 0]) (V:=fun _=>.tuple #[]) (R:=Qev 60 83 b out) (R':=fun _=>Qev 60 83 b (out++[(⟨vb,(gd R1 0).item,false,(gd R1 0).qty,0⟩:Dif)])) (Lo:=fun _=>[]) (F:=fun _ _=>True) Qn7 rfl rfl hs 0 rfl (fun S hS hlS=>QfP _ S b out (⟨vb,(gd R1 0).item,false,(gd R1 0).qty,0⟩:Dif) hS hlS (by omega)) fun _ w18 hs _=>(Qae ?_)))))))
    have hd9:=Qms hra hrb hdi (by omega) (QfN hrr.2 hz9)
    refine ⟨_,?_,_,R1.drop 1,R2,I++[(gd R1 0).item],(out++[(⟨vb,(gd R1 0).item,false,(gd R1 0).qty,0⟩:Dif)]),(sla a6 1 cb6 2),cb6-1,a7,cb7,Qal (Qal (Qap (ds:=([6,7,8]++sq 13 97)) (by repeat (first|exact Agr.refl _ _|refine Agr.upd ?_ rfl|refine Agr.mix ?_ rfl))) rfl) rfl,hd9.1,(QhB hout hd9.2.1 hd9.2.2 c17),(fun w1 L1 h=>Rd.dropM (hv6 w1 L1 h) 1 (by omega) _ (by rw [List.length_drop])),hv7,(by simp only [List.length_drop];omega),(by simp only [QQ7,List.length_singleton,List.length_drop];omega),rfl,hs.take 3⟩
    (simp only [List.length_drop];omega)
   replace c17:=Qbq c17
   replace c17:=QQ1 c17
   refine Qaq ?_
   have hd9:=Qms hra hrb hdi (by omega) (QfN hrr.2 hz9)
   refine ⟨_,?_,_,R1.drop 1,R2,I++[(gd R1 0).item],out,(sla a6 1 cb6 2),cb6-1,a7,cb7,Qal (Qal (Qap (ds:=([6,7,8]++sq 13 97)) (by repeat (first|exact Agr.refl _ _|refine Agr.upd ?_ rfl|refine Agr.mix ?_ rfl))) rfl) rfl,hd9.1,(QmZ hout hd9.2.1 hd9.2.2 c17),(fun w1 L1 h=>Rd.dropM (hv6 w1 L1 h) 1 (by omega) _ (by rw [List.length_drop])),hv7,(by simp only [List.length_drop];omega),(by simp only [List.length_drop];omega),rfl,hs.take 3⟩
   (simp only [List.length_drop];omega)
  have c13r:=QfT c13
  replace c13:=QfR c13
  replace c13:=QQ2 c13
  refine Qag ?_
  have hn9:0<R2.length:=by omega
  refine QaI HM [some 76,some 77,some 78,some 79,some 80,some 81,some 82,some 83,some 84,some 85,some 86,some 87,some 88,some 89,some 75] [] [0,1,3,7,15,31,63,127,15,271,783,1807,4095,8191,16383] [pv (.slice a6 R1.length cb6),pv (I6 ((R1.length:Nat):Int)),pv (.bool (decide (((R1.length:Nat):Int)=0))),pv (.bool (decide (((R1.length:Nat):Int)=0))),pg ((decide (((R1.length:Nat):Int)=0)) == false) (.slice a7 R2.length cb7),pg ((decide (((R1.length:Nat):Int)=0)) == false) (.pointer (some ⟨bkS (.slice a7 R2.length cb7),ofS (.slice a7 R2.length cb7)+(0:Int).toNat*2,none⟩)),pg ((decide (((R1.length:Nat):Int)=0)) == false) (.pointer (some ⟨bkS (.slice a7 R2.length cb7),ofS (.slice a7 R2.length cb7)+(0:Int).toNat*2+0,none⟩)),pg ((decide (((R1.length:Nat):Int)=0)) == false) (I7 ((gd R2 0).item)),pg ((decide (((R1.length:Nat):Int)=0)) == false) (.slice a6 R1.length cb6),pg ((decide (((R1.length:Nat):Int)=0)) == false) (.pointer (some ⟨bkS (.slice a6 R1.length cb6),ofS (.slice a6 R1.length cb6)+(0:Int).toNat*2,none⟩)),pg ((decide (((R1.length:Nat):Int)=0)) == false) (.pointer (some ⟨bkS (.slice a6 R1.length cb6),ofS (.slice a6 R1.length cb6)+(0:Int).toNat*2+0,none⟩)),pg ((decide (((R1.length:Nat):Int)=0)) == false) (I7 ((gd R1 0).item)),pg ((decide (((R1.length:Nat):Int)=0)) == false) (.bool (decide ((gd R2 0).item<(gd R1 0).item))),pv (.bool ((decide (((R1.length:Nat):Int)=0))||(decide ((gd R2 0).item<(gd R1 0).item)))),pv (.bool ((decide (((R1.length:Nat):Int)=0))||(decide ((gd R2 0).item<(gd R1 0).item))))] (fun _ _=>_) [14] (by kernel_rfl) hs ⟨?_,?_,?_,?_,?_,?_,?_,?_,?_,?_,?_,?_,?_,?_,?_,trivial⟩ ?_
  ·exact oa [] fun D J w hs=>Qac (V:=.slice a6 R1.length cb6) rfl (Zz hs)
  ·exact oa [0] fun D J w hs=>Qa3 (n:=R1.length) Qdc (hv6 _ _ hs) (by simp) rfl (Zz hs)
  ·exact oa [1] fun D J w hs=>Qa1 rfl rfl (Zz hs)
  ·exact oa [2] fun D J w hs=>Qac (V:=.bool (decide (((R1.length:Nat):Int)=0))) rfl (Zz hs)
  ·exact og [3] fun D J w hG hs=>Qac (V:=.slice a7 R2.length cb7) rfl (Zz hs)
  ·refine oy [3,4] [4] fun D J w hG hs=>?_
   have hgd:=QQ2 (eq_of_beq (hG))
   exact Qax Qdc Qck.1 (hv7 _ _ hs) rfl rfl (by decide) (by rw [QQ6];omega) (Zz hs)
  ·exact oy [3,5] [5] fun D J w hG hs=>Qaf QdG rfl (Zz hs)
  ·refine oy [3,6] [6] fun D J w hG hs=>?_
   have hgd:=QQ2 (eq_of_beq (hG))
   exact QaW (j:=0) (V:=.int .u16 ((gd R2 0).item)) 0 Qat (hv7 _ _ hs) (Qba (by omega)) rfl rfl (by omega) (Zz hs)
  ·exact og [3] fun D J w hG hs=>Qac (V:=.slice a6 R1.length cb6) rfl (Zz hs)
  ·refine oy [3,8] [8] fun D J w hG hs=>?_
   have hgd:=QQ2 (eq_of_beq (hG))
   exact Qax Qdc Qck.1 (hv6 _ _ hs) rfl rfl (by decide) (by rw [QQ6];omega) (Zz hs)
  ·exact oy [3,9] [9] fun D J w hG hs=>Qaf QdG rfl (Zz hs)
  ·refine oy [3,10] [10] fun D J w hG hs=>?_
   have hgd:=QQ2 (eq_of_beq (hG))
   exact QaW (j:=0) (V:=.int .u16 ((gd R1 0).item)) 0 Qat (hv6 _ _ hs) (Qba (by omega)) rfl rfl (by omega) (Zz hs)
  ·exact oy [3,7,11] [7,11] fun D J w hG hs=>Qa2 rfl rfl (Zz hs)
  ·exact oa [3,12] fun D J w hs=>Qb4 (h':=decide ((gd R2 0).item<(gd R1 0).item)) rfl rfl rfl (Zz hs)
  ·exact oa [13] fun D J w hs=>Qad (V:=.bool ((decide (((R1.length:Nat):Int)=0))||(decide ((gd R2 0).item<(gd R1 0).item)))) rfl (Zz hs)
  rintro J1 w19 J2 hJ hs
  replace hJ:J2=upd (mix (sq 76 14++[75]) J1 _) 75 (.bool ((decide (((R1.length:Nat):Int)=0))||(decide ((gd R2 0).item<(gd R1 0).item)))):=hJ
  subst hJ
  refine Qam (t:=(decide (((R1.length:Nat):Int)=0))||(decide ((gd R2 0).item<(gd R1 0).item))) rfl (fun c20=>?_) (fun c20=>?_)
  ·
   refine Qag ?_
   have hz9:=Qvv hn9 c20
   refine QaI HM [some 90,some 91,some 92,some 93,some 94,some 95,some 96,some 97,some 98,none,some 99,none] [] [0,1,3,7,0,16,48,112,15,271,1023,2047] [pv (.slice a7 R2.length cb7),pv (.pointer (some ⟨bkS (.slice a7 R2.length cb7),ofS (.slice a7 R2.length cb7)+(0:Int).toNat*2,none⟩)),pv (.pointer (some ⟨bkS (.slice a7 R2.length cb7),ofS (.slice a7 R2.length cb7)+(0:Int).toNat*2+0,none⟩)),pv (I7 ((gd R2 0).item)),pv (.slice a7 R2.length cb7),pv (.pointer (some ⟨bkS (.slice a7 R2.length cb7),ofS (.slice a7 R2.length cb7)+(0:Int).toNat*2,none⟩)),pv (.pointer (some ⟨bkS (.slice a7 R2.length cb7),ofS (.slice a7 R2.length cb7)+(0:Int).toNat*2+1,none⟩)),pv (.int .u32 ((gd R2 0).qty)),pv (Pq b9 (0+1)),pn,pv (Pq b9 (0+4)),pn] (fun D J=>[Qev 60 83 b out,blk b1 [I7 va,.slice aa la.length ca,.bool ao,.int .u32 at_] 49,blk b3 [I7 vb,.slice ab lb.length cb,.bool bo,.int .u32 bt] 49,cond (D 11) (blk b9 (dfc (⟨vb,(gd R2 0).item,false,0,(gd R2 0).qty⟩:Dif)) 83) (cond (D 9) (blk b9 (dfc (⟨vb,(gd R2 0).item,false,0,0⟩:Dif)) 83) (blk b9 (dfc (⟨vb,0,false,0,0⟩:Dif)) 83))]) [] (by kernel_rfl) hs ⟨?_,?_,?_,?_,?_,?_,?_,?_,?_,?_,?_,?_,trivial⟩ ?_
   ·exact oa [] fun D J w hs=>Qac (V:=.slice a7 R2.length cb7) rfl (Zz hs)
   ·exact oa [0] fun D J w hs=>Qax Qdc Qck.1 (hv7 _ _ hs) rfl rfl (by decide) (by rw [QQ6];omega) (Zz hs)
   ·exact oa [1] fun D J w hs=>Qaf QdG rfl (Zz hs)
   ·exact oa [2] fun D J w hs=>QaW (j:=0) (V:=.int .u16 ((gd R2 0).item)) 0 Qat (hv7 _ _ hs) (Qba (by omega)) rfl rfl (by omega) (Zz hs)
   ·exact oa [] fun D J w hs=>Qac (V:=.slice a7 R2.length cb7) rfl (Zz hs)
   ·exact oa [4] fun D J w hs=>Qax Qdc Qck.1 (hv7 _ _ hs) rfl rfl (by decide) (by rw [QQ6];omega) (Zz hs)
   ·exact oa [5] fun D J w hs=>Qaf QfS rfl (Zz hs)
   ·exact oa [6] fun D J w hs=>QaW (j:=1) (V:=.int .u32 ((gd R2 0).qty)) 0 QaU (hv7 _ _ hs) (Qba (by omega)) rfl rfl (by omega) (Zz hs)
   ·exact oa [] fun D J w hs=>Qaf Qjm rfl (Zz hs)
   ·exact ob [3,8] [11] rfl rfl fun D J w hs=>Qc0 (V:=I7 ((gd R2 0).item)) (cs':=dfc (⟨vb,(gd R2 0).item,false,0,0⟩:Dif)) Qat hs 3 rfl rfl rfl rfl (QQ8 rfl) rfl fun _ hs=>⟨trivial,hs⟩
   ·exact oa [] fun D J w hs=>Qaf Qf1 rfl (Zz hs)
   ·exact oa [7,9,10] fun D J w hs=>Qc0 (V:=.int .u32 ((gd R2 0).qty)) (cs':=dfc (⟨vb,(gd R2 0).item,false,0,(gd R2 0).qty⟩:Dif)) QaU hs 3 rfl rfl rfl rfl (QQ8 rfl) rfl fun _ hs=>⟨trivial,hs⟩
   rintro J1 w23 J2 hJ hs
   replace hJ:J2=mix (sq 90 10) J1 _:=hJ
   replace hs:Own w S w23 [Qev 60 83 b out,blk b1 [I7 va,.slice aa la.length ca,.bool ao,.int .u32 at_] 49,blk b3 [I7 vb,.slice ab lb.length cb,.bool bo,.int .u32 bt] 49,blk b9 (dfc (⟨vb,(gd R2 0).item,false,0,(gd R2 0).qty⟩:Dif)) 83]:=hs
   subst hJ
   refine Qab (Qaa (Qac (V:=.slice a7 R2.length cb7) rfl (Qaa (QkL (l:=1) (h:=R2.length) (m:=cb7) (n':=(R2.drop 1).length) QjG Qck.1 (hv7 _ _ hs) rfl (.inr ⟨_,_,rfl,rfl⟩) (.inl ⟨rfl,rfl⟩) (.inl ⟨rfl,rfl⟩) (by omega) (by omega) (Nat.le_trans (show R2.length<=R2.length by omega) (Rd.roomM (hv7 _ _ hs))) (Nat.le_refl _) (by simp only [List.length_take,List.length_drop]<;>omega) ?_))))
   refine Qaa (Qad (V:=.slice (sla a7 1 cb7 2) ((R2.drop 1).length) (cb7-1)) rfl (Qae (Qag (Qab (Qaa (Qaf Qgg rfl (Qaa (QaQ (V:=.int .u32 0) QaU hs 3 rfl rfl rfl (Qaa (Qaf Qf1 rfl (Qaa (QaQ (V:=.int .u32 ((gd R2 0).qty)) QaU hs 3 rfl rfl rfl (Qaa (Qcq rfl rfl (Qae (Qam (t:=!decide (0=(gd R2 0).qty)) rfl (fun c24=>?_) (fun c24=>?_)))))))))))))))))
   ·
    replace c24:=Qby c24
    replace c24:=QQ2 c24
    refine Qab (Qaa (Qac (V:=.func (.func 65) #[] #[Pq b 0]) rfl (Qaa (QaP (cs:=dfc (⟨vb,(gd R2 0).item,false,0,(gd R2 0).qty⟩:Dif)) Qjs hs 3 rfl rfl rfl (Qaa (Qpa (α:=Unit) (vs:=[.agg (dfc (⟨vb,(gd R2 0).item,false,0,(gd R2 0).qty⟩:Dif)).toArray]) (cs:=[Pq b 0]) (V:=fun _=>.tuple #[]) (R:=Qev 60 83 b out) (R':=fun _=>Qev 60 83 b (out++[(⟨vb,(gd R2 0).item,false,0,(gd R2 0).qty⟩:Dif)])) (Lo:=fun _=>[]) (F:=fun _ _=>True) Qn7 rfl rfl hs 0 rfl (fun S hS hlS=>QfP _ S b out (⟨vb,(gd R2 0).item,false,0,(gd R2 0).qty⟩:Dif) hS hlS (by omega)) fun _ w25 hs _=>(Qae ?_)))))))
    have hd9:=Qqm hra hrb hdi (by omega) (QfN hrr.1 hz9)
    refine ⟨_,?_,_,R1,R2.drop 1,I++[(gd R2 0).item],(out++[(⟨vb,(gd R2 0).item,false,0,(gd R2 0).qty⟩:Dif)]),a6,cb6,(sla a7 1 cb7 2),cb7-1,Qal (Qal (Qap (ds:=([6,7,8]++sq 13 97)) (by repeat (first|exact Agr.refl _ _|refine Agr.upd ?_ rfl|refine Agr.mix ?_ rfl))) rfl) rfl,hd9.1,(QhB hout hd9.2.1 hd9.2.2 c24),hv6,(fun w1 L1 h=>Rd.dropM (hv7 w1 L1 h) 1 (by omega) _ (by rw [List.length_drop])),(by simp only [List.length_drop];omega),(by simp only [QQ7,List.length_singleton,List.length_drop];omega),rfl,hs.take 3⟩
    (simp only [List.length_drop];omega)
   replace c24:=Qbq c24
   replace c24:=QQ1 c24
   refine Qaq ?_
   have hd9:=Qqm hra hrb hdi (by omega) (QfN hrr.1 hz9)
   refine ⟨_,?_,_,R1,R2.drop 1,I++[(gd R2 0).item],out,a6,cb6,(sla a7 1 cb7 2),cb7-1,Qal (Qal (Qap (ds:=([6,7,8]++sq 13 97)) (by repeat (first|exact Agr.refl _ _|refine Agr.upd ?_ rfl|refine Agr.mix ?_ rfl))) rfl) rfl,hd9.1,(QmZ hout hd9.2.1 hd9.2.2 c24),hv6,(fun w1 L1 h=>Rd.dropM (hv7 w1 L1 h) 1 (by omega) _ (by rw [List.length_drop])),(by simp only [List.length_drop];omega),(by simp only [List.length_drop];omega),rfl,hs.take 3⟩
   (simp only [List.length_drop];omega)
  have c20r:=QfT c20
  replace c20:=QfR c20
  replace c20:=QQ2 c20
  replace c20r:=QQ2 c20r
  refine Qag ?_
  have hz9:=Qvx c13r (by omega) (by omega)
  refine QaI HM [some 24,some 25,some 26,some 27,some 28,some 29,some 30,some 31,some 32,some 33,some 34,some 35,some 36,none,some 37,none,some 38,none] [] [0,1,3,7,0,16,48,112,0,256,768,1792,15,4111,12543,28927,65535,131071] [pv (.slice a6 R1.length cb6),pv (.pointer (some ⟨bkS (.slice a6 R1.length cb6),ofS (.slice a6 R1.length cb6)+(0:Int).toNat*2,none⟩)),pv (.pointer (some ⟨bkS (.slice a6 R1.length cb6),ofS (.slice a6 R1.length cb6)+(0:Int).toNat*2+0,none⟩)),pv (I7 ((gd R1 0).item)),pv (.slice a6 R1.length cb6),pv (.pointer (some ⟨bkS (.slice a6 R1.length cb6),ofS (.slice a6 R1.length cb6)+(0:Int).toNat*2,none⟩)),pv (.pointer (some ⟨bkS (.slice a6 R1.length cb6),ofS (.slice a6 R1.length cb6)+(0:Int).toNat*2+1,none⟩)),pv (.int .u32 ((gd R1 0).qty)),pv (.slice a7 R2.length cb7),pv (.pointer (some ⟨bkS (.slice a7 R2.length cb7),ofS (.slice a7 R2.length cb7)+(0:Int).toNat*2,none⟩)),pv (.pointer (some ⟨bkS (.slice a7 R2.length cb7),ofS (.slice a7 R2.length cb7)+(0:Int).toNat*2+1,none⟩)),pv (.int .u32 ((gd R2 0).qty)),pv (Pq b9 (0+1)),pn,pv (Pq b9 (0+3)),pn,pv (Pq b9 (0+4)),pn] (fun D J=>[Qev 60 83 b out,blk b1 [I7 va,.slice aa la.length ca,.bool ao,.int .u32 at_] 49,blk b3 [I7 vb,.slice ab lb.length cb,.bool bo,.int .u32 bt] 49,cond (D 17) (blk b9 (dfc (⟨vb,(gd R1 0).item,false,(gd R1 0).qty,(gd R2 0).qty⟩:Dif)) 83) (cond (D 15) (blk b9 (dfc (⟨vb,(gd R1 0).item,false,(gd R1 0).qty,0⟩:Dif)) 83) (cond (D 13) (blk b9 (dfc (⟨vb,(gd R1 0).item,false,0,0⟩:Dif)) 83) (blk b9 (dfc (⟨vb,0,false,0,0⟩:Dif)) 83)))]) [] (by kernel_rfl) hs ⟨?_,?_,?_,?_,?_,?_,?_,?_,?_,?_,?_,?_,?_,?_,?_,?_,?_,?_,trivial⟩ ?_
  ·exact oa [] fun D J w hs=>Qac (V:=.slice a6 R1.length cb6) rfl (Zz hs)
  ·exact oa [0] fun D J w hs=>Qax Qdc Qck.1 (hv6 _ _ hs) rfl rfl (by decide) (by rw [QQ6];omega) (Zz hs)
  ·exact oa [1] fun D J w hs=>Qaf QdG rfl (Zz hs)
  ·exact oa [2] fun D J w hs=>QaW (j:=0) (V:=.int .u16 ((gd R1 0).item)) 0 Qat (hv6 _ _ hs) (Qba (by omega)) rfl rfl (by omega) (Zz hs)
  ·exact oa [] fun D J w hs=>Qac (V:=.slice a6 R1.length cb6) rfl (Zz hs)
  ·exact oa [4] fun D J w hs=>Qax Qdc Qck.1 (hv6 _ _ hs) rfl rfl (by decide) (by rw [QQ6];omega) (Zz hs)
  ·exact oa [5] fun D J w hs=>Qaf QfS rfl (Zz hs)
  ·exact oa [6] fun D J w hs=>QaW (j:=1) (V:=.int .u32 ((gd R1 0).qty)) 0 QaU (hv6 _ _ hs) (Qba (by omega)) rfl rfl (by omega) (Zz hs)
  ·exact oa [] fun D J w hs=>Qac (V:=.slice a7 R2.length cb7) rfl (Zz hs)
  ·exact oa [8] fun D J w hs=>Qax Qdc Qck.1 (hv7 _ _ hs) rfl rfl (by decide) (by rw [QQ6];omega) (Zz hs)
  ·exact oa [9] fun D J w hs=>Qaf QfS rfl (Zz hs)
  ·exact oa [10] fun D J w hs=>QaW (j:=1) (V:=.int .u32 ((gd R2 0).qty)) 0 QaU (hv7 _ _ hs) (Qba (by omega)) rfl rfl (by omega) (Zz hs)
  ·exact oa [] fun D J w hs=>Qaf Qjm rfl (Zz hs)
  ·exact ob [3,12] [15,17] rfl rfl fun D J w hs=>Qc0 (V:=I7 ((gd R1 0).item)) (cs':=dfc (⟨vb,(gd R1 0).item,false,0,0⟩:Dif)) Qat hs 3 rfl rfl rfl rfl (QQ8 rfl) rfl fun _ hs=>⟨trivial,hs⟩
  ·exact oa [] fun D J w hs=>Qaf Qgg rfl (Zz hs)
  ·exact ob [7,13,14] [17] rfl rfl fun D J w hs=>Qc0 (V:=.int .u32 ((gd R1 0).qty)) (cs':=dfc (⟨vb,(gd R1 0).item,false,(gd R1 0).qty,0⟩:Dif)) QaU hs 3 rfl rfl rfl rfl (QQ8 rfl) rfl fun _ hs=>⟨trivial,hs⟩
  ·exact oa [] fun D J w hs=>Qaf Qf1 rfl (Zz hs)
  ·exact oa [11,13,15,16] fun D J w hs=>Qc0 (V:=.int .u32 ((gd R2 0).qty)) (cs':=dfc (⟨vb,(gd R1 0).item,false,(gd R1 0).qty,(gd R2 0).qty⟩:Dif)) QaU hs 3 rfl rfl rfl rfl (QQ8 rfl) rfl fun _ hs=>⟨trivial,hs⟩
  rintro J1 w29 J2 hJ hs
  replace hJ:J2=mix (sq 24 15) J1 _:=hJ
  replace hs:Own w S w29 [Qev 60 83 b out,blk b1 [I7 va,.slice aa la.length ca,.bool ao,.int .u32 at_] 49,blk b3 [I7 vb,.slice ab lb.length cb,.bool bo,.int .u32 bt] 49,blk b9 (dfc (⟨vb,(gd R1 0).item,false,(gd R1 0).qty,(gd R2 0).qty⟩:Dif)) 83]:=hs
  subst hJ
  refine QaI HM [some 39,some 40,some 41,some 42,some 6,some 7] [] [0,1,0,4,3,31] [pv (.slice a6 R1.length cb6),pv (.slice (sla a6 1 cb6 2) ((R1.drop 1).length) (cb6-1)),pv (.slice a7 R2.length cb7),pv (.slice (sla a7 1 cb7 2) ((R2.drop 1).length) (cb7-1)),pv (.slice (sla a6 1 cb6 2) ((R1.drop 1).length) (cb6-1)),pv (.slice (sla a7 1 cb7 2) ((R2.drop 1).length) (cb7-1))] (fun _ _=>_) [5,4] (by kernel_rfl) hs ⟨?_,?_,?_,?_,?_,?_,trivial⟩ ?_
  ·exact ob [] [4] rfl rfl fun D J w hs=>Qac (V:=.slice a6 R1.length cb6) rfl (Zz hs)
  ·exact oa [0] fun D J w hs=>QkL (l:=1) (h:=R1.length) (m:=cb6) (n':=(R1.drop 1).length) QjG Qck.1 (hv6 _ _ hs) rfl (.inr ⟨_,_,rfl,rfl⟩) (.inl ⟨rfl,rfl⟩) (.inl ⟨rfl,rfl⟩) (by omega) (by omega) (Nat.le_trans (show R1.length<=R1.length by omega) (Rd.roomM (hv6 _ _ hs))) (Nat.le_refl _) (by simp only [List.length_take,List.length_drop]<;>omega) (Zz hs)
  ·exact ob [] [5] rfl rfl fun D J w hs=>Qac (V:=.slice a7 R2.length cb7) rfl (Zz hs)
  ·exact oa [2] fun D J w hs=>QkL (l:=1) (h:=R2.length) (m:=cb7) (n':=(R2.drop 1).length) QjG Qck.1 (hv7 _ _ hs) rfl (.inr ⟨_,_,rfl,rfl⟩) (.inl ⟨rfl,rfl⟩) (.inl ⟨rfl,rfl⟩) (by omega) (by omega) (Nat.le_trans (show R2.length<=R2.length by omega) (Rd.roomM (hv7 _ _ hs))) (Nat.le_refl _) (by simp only [List.length_take,List.length_drop]<;>omega) (Zz hs)
  ·exact oa [1] fun D J w hs=>Qad (V:=.slice (sla a6 1 cb6 2) ((R1.drop 1).length) (cb6-1)) rfl (Zz hs)
  ·exact oa [3] fun D J w hs=>Qad (V:=.slice (sla a7 1 cb7 2) ((R2.drop 1).length) (cb7-1)) rfl (Zz hs)
  rintro J1 w30 J2 hJ hs
  replace hJ:J2=upd (upd (mix [39,40,41,42,6,7] J1 _) 6 (.slice (sla a6 1 cb6 2) ((R1.drop 1).length) (cb6-1))) 7 (.slice (sla a7 1 cb7 2) ((R2.drop 1).length) (cb7-1)):=hJ
  subst hJ
  refine Qag (Qab (Qaa (Qaf Qgg rfl (Qaa (QaQ (V:=.int .u32 ((gd R1 0).qty)) QaU hs 3 rfl rfl rfl (Qaa (Qaf Qf1 rfl (Qaa (QaQ (V:=.int .u32 ((gd R2 0).qty)) QaU hs 3 rfl rfl rfl (Qaa (Qcq rfl rfl (Qae (Qam (t:=!decide ((gd R1 0).qty=(gd R2 0).qty)) rfl (fun c31=>?_) (fun c31=>?_))))))))))))))
  ·
   replace c31:=Qby c31
   replace c31:=QQ2 c31
   refine Qab (Qaa (Qac (V:=.func (.func 65) #[] #[Pq b 0]) rfl (Qaa (QaP (cs:=dfc (⟨vb,(gd R1 0).item,false,(gd R1 0).qty,(gd R2 0).qty⟩:Dif)) Qjs hs 3 rfl rfl rfl (Qaa (Qpa (α:=Unit) (vs:=[.agg (dfc (⟨vb,(gd R1 0).item,false,(gd R1 0).qty,(gd R2 0).qty⟩:Dif)).toArray]) (cs:=[Pq b 0]) (V:=fun _=>.tuple #[]) (R:=Qev 60 83 b out) (R':=fun _=>Qev 60 83 b (out++[(⟨vb,(gd R1 0).item,false,(gd R1 0).qty,(gd R2 0).qty⟩:Dif)])) (Lo:=fun _=>[]) (F:=fun _ _=>True) Qn7 rfl rfl hs 0 rfl (fun S hS hlS=>QfP _ S b out (⟨vb,(gd R1 0).item,false,(gd R1 0).qty,(gd R2 0).qty⟩:Dif) hS hlS (by omega)) fun _ w32 hs _=>(Qae ?_)))))))
   have hd9:=Qqd hra hrb hdi (by omega) (by omega) hz9
   refine ⟨_,?_,_,R1.drop 1,R2.drop 1,I++[(gd R1 0).item],(out++[(⟨vb,(gd R1 0).item,false,(gd R1 0).qty,(gd R2 0).qty⟩:Dif)]),(sla a6 1 cb6 2),cb6-1,(sla a7 1 cb7 2),cb7-1,Qal (Qal (Qap (ds:=([6,7,8]++sq 13 97)) (by repeat (first|exact Agr.refl _ _|refine Agr.upd ?_ rfl|refine Agr.mix ?_ rfl))) rfl) rfl,hd9.1,(QhB hout hd9.2.1 hd9.2.2 c31),(fun w1 L1 h=>Rd.dropM (hv6 w1 L1 h) 1 (by omega) _ (by rw [List.length_drop])),(fun w1 L1 h=>Rd.dropM (hv7 w1 L1 h) 1 (by omega) _ (by rw [List.length_drop])),(by simp only [List.length_drop];omega),(by simp only [QQ7,List.length_singleton,List.length_drop];omega),rfl,hs.take 3⟩
   (simp only [List.length_drop];omega)
  replace c31:=Qbq c31
  replace c31:=QQ1 c31
  refine Qaq ?_
  have hd9:=Qqd hra hrb hdi (by omega) (by omega) hz9
  refine ⟨_,?_,_,R1.drop 1,R2.drop 1,I++[(gd R1 0).item],out,(sla a6 1 cb6 2),cb6-1,(sla a7 1 cb7 2),cb7-1,Qal (Qal (Qap (ds:=([6,7,8]++sq 13 97)) (by repeat (first|exact Agr.refl _ _|refine Agr.upd ?_ rfl|refine Agr.mix ?_ rfl))) rfl) rfl,hd9.1,(QmZ hout hd9.2.1 hd9.2.2 c31),(fun w1 L1 h=>Rd.dropM (hv6 w1 L1 h) 1 (by omega) _ (by rw [List.length_drop])),(fun w1 L1 h=>Rd.dropM (hv7 w1 L1 h) 1 (by omega) _ (by rw [List.length_drop])),(by simp only [List.length_drop];omega),(by simp only [List.length_drop];omega),rfl,hs.take 3⟩
  (simp only [List.length_drop];omega)
 have c8r:=QfT c8
 replace c8:=QfR c8
 replace c8:=QQ2 c8
 replace c8r:=QQ2 c8r
 refine QaL (Qag (Qab (Qaa (Qaf Qd4 rfl (Qaa (QaQ (V:=.bool ao) Qp1 hs 1 rfl rfl rfl (Qaa (Qaf Qd4 rfl (Qaa (QaQ (V:=.bool bo) Qp1 hs 2 rfl rfl rfl (Qaa (Qt1 Qt7 rfl rfl (Qae (Qam (t:=!(ao == bo)) rfl (fun c33=>?_) (fun c33=>?_)))))))))))))))
 ·
  replace c33:=Qby c33
  refine QaI HM [some 115,some 116,some 117,some 118,some 119,some 120,some 121,some 122,some 123,some 124,some 125] [] [0,0,2,0,8,24,0,64,248,510,1023] [pv (.func (.func 65) #[] #[Pq b 0]),pv (Pq b3 (0+0)),pv (I7 vb),pv (Pq b1 (0+2)),pv (.bool ao),pv (.int .u32 (QeQ ao)),pv (Pq b3 (0+2)),pv (.bool bo),pv (.int .u32 (QeQ bo)),pv (.agg (dfc (⟨vb,0,true,QeQ ao,QeQ bo⟩:Dif)).toArray),pv (.tuple #[])] (fun D J=>[cond (D 10) (Qev 60 83 b (out++[(⟨vb,0,true,QeQ ao,QeQ bo⟩:Dif)])) (Qev 60 83 b out),blk b1 [I7 va,.slice aa la.length ca,.bool ao,.int .u32 at_] 49,blk b3 [I7 vb,.slice ab lb.length cb,.bool bo,.int .u32 bt] 49]) [] (by kernel_rfl) hs ⟨?_,?_,?_,?_,?_,?_,?_,?_,?_,?_,?_,trivial⟩ ?_
  ·exact oa [] fun D J w hs=>Qac (V:=.func (.func 65) #[] #[.pointer (some ⟨b,0,none⟩)]) rfl (Zz hs)
  ·exact oa [] fun D J w hs=>Qaf Qhi rfl (Zz hs)
  ·exact oa [1] fun D J w hs=>QaQ (V:=.int .u16 vb) Qat hs 2 rfl rfl rfl (Zz hs)
  ·exact oa [] fun D J w hs=>Qaf Qd4 rfl (Zz hs)
  ·exact oa [3] fun D J w hs=>QaQ (V:=.bool ao) Qp1 hs 1 rfl rfl rfl (Zz hs)
  ·exact oa [4] fun D J w hs=>Qav (vs:=[.bool ao]) (V:=.int .u32 (QeQ ao)) Qqf rfl rfl (Qj6 _ ao) hs fun _ hs=>Zz hs
  ·exact oa [] fun D J w hs=>Qaf Qd4 rfl (Zz hs)
  ·exact oa [6] fun D J w hs=>QaQ (V:=.bool bo) Qp1 hs 2 rfl rfl rfl (Zz hs)
  ·exact oa [7] fun D J w hs=>Qav (vs:=[.bool bo]) (V:=.int .u32 (QeQ bo)) Qqf rfl rfl (Qj6 _ bo) hs fun _ hs=>Zz hs
  ·exact oa [2,5,8] fun D J w hs=>QbI (vs:=[(0,.int .u16 vb),(2,.bool true),(3,.int .u32 (QeQ ao)),(4,.int .u32 (QeQ bo))]) (cs:=dfc (⟨vb,0,true,QeQ ao,QeQ bo⟩:Dif)) QrD (rfl) rfl (Zz hs)
  ·exact oa [0,9] fun D J w hs=>Qpa (α:=Unit) (vs:=[.agg (dfc (⟨vb,0,true,QeQ ao,QeQ bo⟩:Dif)).toArray]) (cs:=[.pointer (some ⟨b,0,none⟩)]) (V:=fun _=>.tuple #[]) (R:=Qev 60 83 b out) (R':=fun _=>Qev 60 83 b (out++[(⟨vb,0,true,QeQ ao,QeQ bo⟩:Dif)])) (Lo:=fun _=>[]) (F:=fun _ _=>True) Qn7 rfl rfl hs 0 rfl (fun S hS hlS=>QfP _ S b out (⟨vb,0,true,QeQ ao,QeQ bo⟩:Dif) hS hlS (by omega)) fun _ _ hs _=>⟨rfl,hs⟩
  rintro J1 w37 J2 hJ hs
  replace hJ:J2=mix (sq 115 11) J1 _:=hJ
  replace hs:Own w S w37 [Qev 60 83 b (out++[(⟨vb,0,true,QeQ ao,QeQ bo⟩:Dif)]),blk b1 [I7 va,.slice aa la.length ca,.bool ao,.int .u32 at_] 49,blk b3 [I7 vb,.slice ab lb.length cb,.bool bo,.int .u32 bt] 49]:=hs
  subst hJ
  refine ⟨_,Qbg Tryz.results64,?_⟩
  have hof:=QjD hdi (by omega) (by omega) hout
  have hX:(out++[(⟨vb,0,true,QeQ ao,QeQ bo⟩:Dif)])=L++QeF (⟨va,la,ao,at_⟩:Vw) (⟨vb,lb,bo,bt⟩:Vw):=Qni hof (fun e=>by subst e;simp at c33)
  exact ⟨(),rfl,by rw [← hX];exact hs.only 0 rfl,trivial⟩
 replace c33:=Qbq c33
 refine Qaq ?_
 refine ⟨_,Qbg Tryz.results64,?_⟩
 have hof:=QjD hdi (by omega) (by omega) hout
 have hX:out=L++QeF (⟨va,la,ao,at_⟩:Vw) (⟨vb,lb,bo,bt⟩:Vw):=QmY hof (eq_of_beq c33)
 exact ⟨(),rfl,by rw [← hX];exact hs.only 0 rfl,trivial⟩
end Tt
end Go.Proofs
namespace Go.Proofs
open Go Go.Vx Go.RowKit
namespace Tt
theorem Qo6 (w:World) (p:Pst) (a1:Option Addr) (c1:Nat) (a2:Option Addr) (c2:Nat) (a3:Option Addr) (c3:Nat) (a b:Vec) (ha:QbN a) (hb:QbN b) (hsortE:QgJ Tryz.prog 48 49 cec 106 7 Qkt) (hsortU:QgI Tryz.prog 134 .u16 32) (hok:Qdq p) (hle:p.base.ents.length<=400) (hlt:p.base.ticks.length<=400) (hlo:p.ops.length<=400) (hr1:Rd w (.slice a1 p.base.ents.length c1) 7 (p.base.ents.map cec)) (hr2:Rd w (.slice a2 p.base.ticks.length c2) 2 (p.base.ticks.map lsc)) (hr3:Rd w (.slice a3 p.ops.length c3) 23 (p.ops.map oc)):Calls Tryz.prog 22 #[.agg (((vc p.base.known)++[(.slice a1 p.base.ents.length c1:Value),(.slice a2 p.base.ticks.length c2:Value) ])++[(.slice a3 p.ops.length c3:Value) ]++(vc p.known)).toArray,.agg (vc a).toArray,.agg (vc b).toArray] w (fun e w'=>∃ x:Option Addr × Nat,e = .returned (.tuple #[.slice x.1 (QcU p a b).length x.2,.int .i64 (Qdd p a b)])/\Own w no w' [row (.slice x.1 (QcU p a b).length x.2) ((QcU p a b).map dfc) 83 5]/\True):=by
 refine Qaj (n:=55) Tryz.func22 rfl Tryz.ntmps22 rfl ?_
 have hs:=Own.start w
 have ⟨hokb,hoko,hokk⟩:=hok
 have hsa:=QdM p a
 have hsoa:=QeO (cut:=a) hok ha
 have hsb:=QdM p b
 have hsob:=QeO (cut:=b) hok hb
 refine Qag (Qab (Qaa (Qa5 (V:=.agg (((vc p.base.known)++[(.slice a1 p.base.ents.length c1:Value),(.slice a2 p.base.ticks.length c2:Value) ])++[(.slice a3 p.ops.length c3:Value) ]++(vc p.known)).toArray) (cs:=((vc p.base.known)++[(.slice a1 p.base.ents.length c1:Value),(.slice a2 p.base.ticks.length c2:Value) ])++[(.slice a3 p.ops.length c3:Value) ]++(vc p.known)) rfl rfl hs fun b1 w2 hs=>(Qaa (Qa5 (V:=.agg (vc a).toArray) (cs:=vc a) rfl rfl hs fun b3 w4 hs=>(Qaa (Qa5 (V:=.agg (vc b).toArray) (cs:=vc b) rfl rfl hs fun b5 w6 hs=>(Qaa (Qad (V:=.slice none 0 0) rfl (Qaa (Qad (V:=I6 0) rfl (Qae (Qag (Qab (Qaa (QaP (cs:=((vc p.base.known)++[(.slice a1 p.base.ents.length c1:Value),(.slice a2 p.base.ticks.length c2:Value) ])++[(.slice a3 p.ops.length c3:Value) ]++(vc p.known)) QcZ hs 0 rfl rfl rfl (Qaa (QaP (cs:=vc a) Qbs hs 1 rfl rfl rfl (Qaa (Qbk (α:=(Option Addr × Nat) × (Option Addr × Nat)) (vs:=[.agg (((vc p.base.known)++[(.slice a1 p.base.ents.length c1:Value),(.slice a2 p.base.ticks.length c2:Value) ])++[(.slice a3 p.ops.length c3:Value) ]++(vc p.known)).toArray,.agg (vc a).toArray]) (V:=fun x:(Option Addr × Nat) × (Option Addr × Nat)=>.tuple #[.agg (vc (Qah p a).known++[(.slice x.1.1 ((Qah p a).ents).length x.1.2:Value),(.slice x.2.1 ((Qah p a).ticks).length x.2.2:Value)]).toArray,I6 (QaK p a)]) (Lo:=fun x=>[row (.slice x.1.1 ((Qah p a).ents).length x.1.2) (((Qah p a).ents).map cec) 106 7,row (.slice x.2.1 ((Qah p a).ticks).length x.2.2) (((Qah p a).ticks).map lsc) 102 2]) (F:=fun _ _=>True) QlW rfl rfl ?hc hs fun x8 w7 hs _=>?_))))))))))))))))))))
 case hc=>exact (Qd8 _ p a1 c1 a2 c2 a3 c3 a ha hsortE hsortU hok hle hlt hlo (Rd.own' hr1 hs) (Rd.own' hr2 hs) (Rd.own' hr3 hs))
 replace hs:Own w no w7 [blk b1 (((vc p.base.known)++[(.slice a1 p.base.ents.length c1:Value),(.slice a2 p.base.ticks.length c2:Value) ])++[(.slice a3 p.ops.length c3:Value) ]++(vc p.known)) 43,blk b3 (vc a) 24,blk b5 (vc b) 24,row (.slice x8.1.1 (((Qah p a).ents).length) x8.1.2) (((Qah p a).ents).map cec) 106 7,row (.slice x8.2.1 (((Qah p a).ticks).length) x8.2.2) (((Qah p a).ticks).map lsc) 102 2]:=hs
 refine Qaa (Qac (V:=.tuple #[.agg ((vc ((Qah p a).known))++[(.slice x8.1.1 (((Qah p a).ents).length) x8.1.2:Value),(.slice x8.2.1 (((Qah p a).ticks).length) x8.2.2:Value) ]).toArray,I6 (QaK p a)]) rfl (Qaa (Qay (V:=.agg ((vc ((Qah p a).known))++[(.slice x8.1.1 (((Qah p a).ents).length) x8.1.2:Value),(.slice x8.2.1 (((Qah p a).ticks).length) x8.2.2:Value) ]).toArray) rfl rfl (Qaa (Qay (V:=I6 (QaK p a)) rfl rfl (Qaa (QaM (cs:=(vc vzero)++[(.slice none 0 0:Value),(.slice none 0 0:Value) ]) QfI rfl hs fun b9 w10 hs=>(Qaa (QcG (V:=.agg ((vc ((Qah p a).known))++[(.slice x8.1.1 (((Qah p a).ents).length) x8.1.2:Value),(.slice x8.2.1 (((Qah p a).ticks).length) x8.2.2:Value) ]).toArray) (vs:=(vc ((Qah p a).known))++[(.slice x8.1.1 (((Qah p a).ents).length) x8.1.2:Value),(.slice x8.2.1 (((Qah p a).ticks).length) x8.2.2:Value) ]) (cs':=(vc ((Qah p a).known))++[(.slice x8.1.1 (((Qah p a).ents).length) x8.1.2:Value),(.slice x8.2.1 (((Qah p a).ticks).length) x8.2.2:Value) ]) QbR.1 hs 5 rfl rfl rfl rfl rfl (QQ8 rfl) (Qbn (QbS _) (Qau rfl (Qau rfl QaY))) (QaA rfl) fun w11 hs=>(Qaa (Qad (V:=I6 (QaK p a)) rfl (Qae (Qag (Qag (Qab (Qaa (Qac (V:=I6 (QaK p a)) rfl (Qaa (Qcq rfl rfl (Qae (Qam (t:=!decide (QaK p a=0)) rfl (fun c12=>?_) (fun c12=>?_))))))))))))))))))))))
 ·
  replace c12:=Qby c12
  replace c12:=QQ2 c12
  refine Qag (Qab (Qaa (Qac (V:=I6 (QaK p a)) rfl (Qaa (Qad (V:=.slice none 0 0) rfl (Qaa (Qad (V:=I6 (QaK p a)) rfl (Qae (Qaw ?_)))))))))
  refine ⟨_,QbG (U:=.slice none 0 0) (V:=I6 (QaK p a)) Tryz.results22 rfl rfl,?_⟩
  have hX:Qdd p a b=QaK p a:=QrP c12
  rw [Qi1 (by rw [hX];exact c12),hX]
  exact ⟨(none,0),rfl,(hs.take 0).more _ (Qbf _ _ _ _),trivial⟩
 replace c12:=Qbq c12
 replace c12:=QQ1 c12
 refine Qaq (Qag (Qab (Qaa (QaP (cs:=((vc p.base.known)++[(.slice a1 p.base.ents.length c1:Value),(.slice a2 p.base.ticks.length c2:Value) ])++[(.slice a3 p.ops.length c3:Value) ]++(vc p.known)) QcZ hs 0 rfl rfl rfl (Qaa (QaP (cs:=vc b) Qbs hs 2 rfl rfl rfl (Qaa (Qbk (α:=(Option Addr × Nat) × (Option Addr × Nat)) (vs:=[.agg (((vc p.base.known)++[(.slice a1 p.base.ents.length c1:Value),(.slice a2 p.base.ticks.length c2:Value) ])++[(.slice a3 p.ops.length c3:Value) ]++(vc p.known)).toArray,.agg (vc b).toArray]) (V:=fun x:(Option Addr × Nat) × (Option Addr × Nat)=>.tuple #[.agg (vc (Qah p b).known++[(.slice x.1.1 ((Qah p b).ents).length x.1.2:Value),(.slice x.2.1 ((Qah p b).ticks).length x.2.2:Value)]).toArray,I6 (QaK p b)]) (Lo:=fun x=>[row (.slice x.1.1 ((Qah p b).ents).length x.1.2) (((Qah p b).ents).map cec) 106 7,row (.slice x.2.1 ((Qah p b).ticks).length x.2.2) (((Qah p b).ticks).map lsc) 102 2]) (F:=fun _ _=>True) QlW rfl rfl ?hc hs fun x14 w13 hs _=>?_))))))))
 case hc=>exact (Qd8 _ p a1 c1 a2 c2 a3 c3 b hb hsortE hsortU hok hle hlt hlo (Rd.own' hr1 hs) (Rd.own' hr2 hs) (Rd.own' hr3 hs))
 refine Qaa (Qac (V:=.tuple #[.agg ((vc ((Qah p b).known))++[(.slice x14.1.1 (((Qah p b).ents).length) x14.1.2:Value),(.slice x14.2.1 (((Qah p b).ticks).length) x14.2.2:Value) ]).toArray,I6 (QaK p b)]) rfl (Qaa (Qay (V:=.agg ((vc ((Qah p b).known))++[(.slice x14.1.1 (((Qah p b).ents).length) x14.1.2:Value),(.slice x14.2.1 (((Qah p b).ticks).length) x14.2.2:Value) ]).toArray) rfl rfl (Qaa (Qay (V:=I6 (QaK p b)) rfl rfl (Qaa (QaM (cs:=(vc vzero)++[(.slice none 0 0:Value),(.slice none 0 0:Value) ]) QfI rfl hs fun b15 w16 hs=>?_)))))))
 replace hs:Own w no w16 [blk b1 (((vc p.base.known)++[(.slice a1 p.base.ents.length c1:Value),(.slice a2 p.base.ticks.length c2:Value) ])++[(.slice a3 p.ops.length c3:Value) ]++(vc p.known)) 43,blk b3 (vc a) 24,blk b5 (vc b) 24,row (.slice x8.1.1 (((Qah p a).ents).length) x8.1.2) (((Qah p a).ents).map cec) 106 7,row (.slice x8.2.1 (((Qah p a).ticks).length) x8.2.2) (((Qah p a).ticks).map lsc) 102 2,blk b9 ((vc ((Qah p a).known))++[(.slice x8.1.1 (((Qah p a).ents).length) x8.1.2:Value),(.slice x8.2.1 (((Qah p a).ticks).length) x8.2.2:Value) ]) 38,row (.slice x14.1.1 (((Qah p b).ents).length) x14.1.2) (((Qah p b).ents).map cec) 106 7,row (.slice x14.2.1 (((Qah p b).ticks).length) x14.2.2) (((Qah p b).ticks).map lsc) 102 2,blk b15 ((vc vzero)++[(.slice none 0 0:Value),(.slice none 0 0:Value) ]) 38]:=hs
 refine Qaa (QcG (V:=.agg ((vc ((Qah p b).known))++[(.slice x14.1.1 (((Qah p b).ents).length) x14.1.2:Value),(.slice x14.2.1 (((Qah p b).ticks).length) x14.2.2:Value) ]).toArray) (vs:=(vc ((Qah p b).known))++[(.slice x14.1.1 (((Qah p b).ents).length) x14.1.2:Value),(.slice x14.2.1 (((Qah p b).ticks).length) x14.2.2:Value) ]) (cs':=(vc ((Qah p b).known))++[(.slice x14.1.1 (((Qah p b).ents).length) x14.1.2:Value),(.slice x14.2.1 (((Qah p b).ticks).length) x14.2.2:Value) ]) QbR.1 hs 8 rfl rfl rfl rfl rfl (QQ8 rfl) (Qbn (QbS _) (Qau rfl (Qau rfl QaY))) (QaA rfl) fun w17 hs=>(Qaa (Qad (V:=I6 (QaK p b)) rfl (Qae (Qag (Qan (Qag (Qab (Qaa (Qac (V:=I6 (QaK p b)) rfl (Qaa (Qcq rfl rfl (Qaa (Qad (V:=.bool (!decide (QaK p b=0))) rfl (Qae (Qam (t:=!decide (QaK p b=0)) rfl (fun c18=>?_) (fun c18=>?_)))))))))))))))))
 ·
  replace c18:=Qby c18
  replace c18:=QQ2 c18
  refine Qag (Qab (Qaa (Qac (V:=I6 (QaK p b)) rfl (Qaa (Qad (V:=.slice none 0 0) rfl (Qaa (Qad (V:=I6 (QaK p b)) rfl (Qae (Qaw ?_)))))))))
  refine ⟨_,QbG (U:=.slice none 0 0) (V:=I6 (QaK p b)) Tryz.results22 rfl rfl,?_⟩
  have hX:Qdd p a b=QaK p b:=QrL c12 c18
  rw [Qi1 (by rw [hX];exact c18),hX]
  exact ⟨(none,0),rfl,(hs.take 0).more _ (Qbf _ _ _ _),trivial⟩
 replace c18:=Qbq c18
 replace c18:=QQ1 c18
 refine Qag (Qab (Qaa (QaP (cs:=vc a) Qbs hs 1 rfl rfl rfl (Qaa (QaP (cs:=vc b) Qbs hs 2 rfl rfl rfl (Qaa (Qav (vs:=[.agg (vc a).toArray,.agg (vc b).toArray]) (V:=.bool (vle a b)) Qoi rfl rfl ?hc hs fun w19 hs=>?_)))))))
 case hc=>exact (QeN _ a b)
 refine Qaa (Qbw rfl (Qaa (Qad (V:=.bool (!(vle a b))) rfl (Qae (Qam (t:=!(vle a b)) rfl (fun c20=>?_) (fun c20=>?_))))))
 ·
  replace c20:=Qby c20
  refine Qag (Qab (Qaa (Qad (V:=.slice none 0 0) rfl (Qaa (Qad (V:=I6 14) rfl (Qae (Qaw ?_)))))))
  refine ⟨_,QbG (U:=.slice none 0 0) (V:=I6 14) Tryz.results22 rfl rfl,?_⟩
  have hX:Qdd p a b=14:=QrH c12 c18 c20
  rw [Qi1 (by rw [hX];decide),hX]
  exact ⟨(none,0),rfl,(hs.take 0).more _ (Qbf _ _ _ _),trivial⟩
 replace c20:=Qbq c20
 refine Qaq (Qag (Qab (Qaa (QaM (cs:=[.slice none 0 0]) Qvh rfl hs fun b21 w22 hs=>(Qae (Qag (Qag (Qab (Qaa (QaP (cs:=(vc ((Qah p b).known))++[(.slice x14.1.1 (((Qah p b).ents).length) x14.1.2:Value),(.slice x14.2.1 (((Qah p b).ticks).length) x14.2.2:Value) ]) QbR hs 8 rfl rfl rfl (Qaa (Qbk (vs:=[.agg ((vc ((Qah p b).known))++[(.slice x14.1.1 (((Qah p b).ents).length) x14.1.2:Value),(.slice x14.2.1 (((Qah p b).ticks).length) x14.2.2:Value) ]).toArray]) (V:=fun x:Option Addr × Nat=>.slice x.1 (QaB (Qah p b)).length x.2) QtI rfl rfl (Qif _ (Qah p b) x14.1.1 x14.1.2 x14.2.1 x14.2.2 hsob (by omega) (by omega) (hs.rd 6 rfl) (hs.rd 7 rfl)) hs fun x23 w24 hs _=>(Qaa (Qa3 (n:=(QaB (Qah p b)).length) QaN (hs.rd 10 rfl) (by simp) rfl (Qaa (Qac (V:=I6 0) rfl (Qae (Qan ?_))))))))))))))))))
 replace hs:=hs.more (row (.slice none 0 0) (List.map dfc []) 83 5) (Qbf _ _ _ _)
 have ho:=(hs.join 9 11 (by decide) rfl rfl).conv 9 (R':=Qev 60 83 b21 []) rfl fun _ h=>⟨(none,0),h⟩
 replace hs:=ho
 have hcl:=Qh1 (Qah p b)
 refine QaG (fun J μ J' w'=>∃ (Jo:Env) (k:Nat) (out:List Dif),J'=upd (mix ([13]++sq 41 13) Jo J) 41 (I6 (k:Int))/\(k<=(QaB (Qah p b)).length)/\(out=((QaB (Qah p b)).take k).flatMap (QiZ p a b))/\(out.length<=k*2000)/\μ=(QaB (Qah p b)).length-k/\Own w no w' [blk b1 (((vc p.base.known)++[(.slice a1 p.base.ents.length c1:Value),(.slice a2 p.base.ticks.length c2:Value) ])++[(.slice a3 p.ops.length c3:Value) ]++(vc p.known)) 43,blk b3 (vc a) 24,blk b5 (vc b) 24,row (.slice x8.1.1 (((Qah p a).ents).length) x8.1.2) (((Qah p a).ents).map cec) 106 7,row (.slice x8.2.1 (((Qah p a).ticks).length) x8.2.2) (((Qah p a).ticks).map lsc) 102 2,blk b9 ((vc ((Qah p a).known))++[(.slice x8.1.1 (((Qah p a).ents).length) x8.1.2:Value),(.slice x8.2.1 (((Qah p a).ticks).length) x8.2.2:Value) ]) 38,row (.slice x14.1.1 (((Qah p b).ents).length) x14.1.2) (((Qah p b).ents).map cec) 106 7,row (.slice x14.2.1 (((Qah p b).ticks).length) x14.2.2) (((Qah p b).ticks).map lsc) 102 2,blk b15 ((vc ((Qah p b).known))++[(.slice x14.1.1 (((Qah p b).ents).length) x14.1.2:Value),(.slice x14.2.1 (((Qah p b).ticks).length) x14.2.2:Value) ]) 38,Qev 60 83 b21 out,row (.slice x23.1 ((QaB (Qah p b)).length) x23.2) ((QaB (Qah p b)).map (ic .u16)) 32 1,emp]) ?_ ?_
 ·exact ⟨_,_,0,[],Qal (Qap (ds:=([13]++sq 41 13)) (Agr.refl _ _)) rfl,(by omega),rfl,(Nat.le_refl _),rfl,hs⟩
 rintro μ J' w25 ⟨Jo,k,out,rfl,hk,hout,hol,rfl,hs⟩
 have hvl1:(Qa4 p a (gd (QaB (Qah p b)) k)).lines.length<=800:=Nat.le_trans (Qe0 _ _ _) (by omega)
 have hvl2:(Qa4 p b (gd (QaB (Qah p b)) k)).lines.length<=800:=Nat.le_trans (Qe0 _ _ _) (by omega)
 refine Qag (Qab (Qaa (Qa2 rfl rfl (Qae (Qag (Qam (t:=decide ((k:Int)<(((QaB (Qah p b)).length:Nat):Int))) rfl (fun c26=>?_) (fun c26=>?_)))))))
 ·
  replace c26:=QQ1 c26
  refine Qaq (Qag (Qan (Qag (Qab (Qaa (Qax QaN Qat.1 (hs.rd 10 rfl) rfl rfl (by omega) (by rw [QQ6];omega) (Qaa (QaW (j:=0) (V:=I7 (gd (QaB (Qah p b)) k)) k Qat (hs.rd 10 rfl) (Qba (by omega)) rfl rfl (by omega) (Qaa (Qad (V:=I7 (gd (QaB (Qah p b)) k)) rfl (Qae ?_)))))))))))
  replace hs:=hs.more emp trivial
  replace hs:=hs.more emp trivial
  refine QaI HM [some 45,some 46,some 47,some 48,some 49,some 50,some 51,some 52] [[],[],[47],[],[],[50]] [0,0,3,0,0,31,0,127] [pv (.agg ((vc ((Qah p a).known))++[(.slice x8.1.1 (((Qah p a).ents).length) x8.1.2:Value),(.slice x8.2.1 (((Qah p a).ticks).length) x8.2.2:Value) ]).toArray),pv (I7 (gd (QaB (Qah p b)) k)),(true,fun J=>.agg #[I7 ((Qa4 p a (gd (QaB (Qah p b)) k)).cart),.slice (aOf (QdX (J 47) 1)) (((Qa4 p a (gd (QaB (Qah p b)) k)).lines).length) (cOf (QdX (J 47) 1)),.bool ((Qa4 p a (gd (QaB (Qah p b)) k)).out),.int .u32 ((Qa4 p a (gd (QaB (Qah p b)) k)).tick)]),pv (.agg ((vc ((Qah p b).known))++[(.slice x14.1.1 (((Qah p b).ents).length) x14.1.2:Value),(.slice x14.2.1 (((Qah p b).ticks).length) x14.2.2:Value) ]).toArray),pv (I7 (gd (QaB (Qah p b)) k)),(true,fun J=>.agg #[I7 ((Qa4 p b (gd (QaB (Qah p b)) k)).cart),.slice (aOf (QdX (J 50) 1)) (((Qa4 p b (gd (QaB (Qah p b)) k)).lines).length) (cOf (QdX (J 50) 1)),.bool ((Qa4 p b (gd (QaB (Qah p b)) k)).out),.int .u32 ((Qa4 p b (gd (QaB (Qah p b)) k)).tick)]),pv (.func (.func 65) #[] #[Pq b21 0]),pv (.tuple #[])] (fun D J=>[blk b1 (((vc p.base.known)++[(.slice a1 p.base.ents.length c1:Value),(.slice a2 p.base.ticks.length c2:Value) ])++[(.slice a3 p.ops.length c3:Value) ]++(vc p.known)) 43,blk b3 (vc a) 24,blk b5 (vc b) 24,row (.slice x8.1.1 (((Qah p a).ents).length) x8.1.2) (((Qah p a).ents).map cec) 106 7,row (.slice x8.2.1 (((Qah p a).ticks).length) x8.2.2) (((Qah p a).ticks).map lsc) 102 2,blk b9 ((vc ((Qah p a).known))++[(.slice x8.1.1 (((Qah p a).ents).length) x8.1.2:Value),(.slice x8.2.1 (((Qah p a).ticks).length) x8.2.2:Value) ]) 38,row (.slice x14.1.1 (((Qah p b).ents).length) x14.1.2) (((Qah p b).ents).map cec) 106 7,row (.slice x14.2.1 (((Qah p b).ticks).length) x14.2.2) (((Qah p b).ticks).map lsc) 102 2,blk b15 ((vc ((Qah p b).known))++[(.slice x14.1.1 (((Qah p b).ents).length) x14.1.2:Value),(.slice x14.2.1 (((Qah p b).ticks).length) x14.2.2:Value) ]) 38,cond (D 7) (Qev 60 83 b21 (out++QeF (Qa4 p a (gd (QaB (Qah p b)) k)) (Qa4 p b (gd (QaB (Qah p b)) k)))) (Qev 60 83 b21 out),row (.slice x23.1 ((QaB (Qah p b)).length) x23.2) ((QaB (Qah p b)).map (ic .u16)) 32 1,emp,cond (D 2) (row (.slice (aOf (QdX (J 47) 1)) (((Qa4 p a (gd (QaB (Qah p b)) k)).lines).length) (cOf (QdX (J 47) 1))) (((Qa4 p a (gd (QaB (Qah p b)) k)).lines).map lc) 127 2) (emp),cond (D 5) (row (.slice (aOf (QdX (J 50) 1)) (((Qa4 p b (gd (QaB (Qah p b)) k)).lines).length) (cOf (QdX (J 50) 1))) (((Qa4 p b (gd (QaB (Qah p b)) k)).lines).map lc) 127 2) (emp)]) [] (by kernel_rfl) hs ⟨?_,?_,?_,?_,?_,?_,?_,?_,trivial⟩ ?_
  ·exact oa [] fun D J w hs=>QaP (cs:=(vc ((Qah p a).known))++[(.slice x8.1.1 (((Qah p a).ents).length) x8.1.2:Value),(.slice x8.2.1 (((Qah p a).ticks).length) x8.2.2:Value) ]) QbR hs 5 rfl rfl rfl (Zz hs)
  ·exact oa [] fun D J w hs=>Qac (V:=.int .u16 (gd (QaB (Qah p b)) k)) rfl (Zz hs)
  ·exact oa [0,1] fun D J w hs=>Qbk (α:=Option Addr × Nat) (vs:=[.agg ((vc ((Qah p a).known))++[(.slice x8.1.1 (((Qah p a).ents).length) x8.1.2:Value),(.slice x8.2.1 (((Qah p a).ticks).length) x8.2.2:Value) ]).toArray,.int .u16 (gd (QaB (Qah p b)) k)]) (V:=fun x=>.agg #[.int .u16 ((Qa4 p a (gd (QaB (Qah p b)) k)).cart),.slice x.1 (((Qa4 p a (gd (QaB (Qah p b)) k)).lines).length) x.2,.bool ((Qa4 p a (gd (QaB (Qah p b)) k)).out),.int .u32 ((Qa4 p a (gd (QaB (Qah p b)) k)).tick)]) (Lo:=fun x=>[row (.slice x.1 ((Qa4 p a (gd (QaB (Qah p b)) k)).lines).length x.2) (((Qa4 p a (gd (QaB (Qah p b)) k)).lines).map lc) 127 2]) (F:=fun _ _=>True) QlT rfl rfl (Qd9 _ (Qah p a) x8.1.1 x8.1.2 x8.2.1 x8.2.2 (gd (QaB (Qah p b)) k) (Qa4 p a (gd (QaB (Qah p b)) k):Vw) (rfl) hsoa (by omega) (by omega) (hs.rd 3 rfl) (hs.rd 4 rfl)) hs fun _ _ hs _=>⟨rfl,hs.put 12 (QQ8 rfl)⟩
  ·exact oa [] fun D J w hs=>QaP (cs:=(vc ((Qah p b).known))++[(.slice x14.1.1 (((Qah p b).ents).length) x14.1.2:Value),(.slice x14.2.1 (((Qah p b).ticks).length) x14.2.2:Value) ]) QbR hs 8 rfl rfl rfl (Zz hs)
  ·exact oa [] fun D J w hs=>Qac (V:=.int .u16 (gd (QaB (Qah p b)) k)) rfl (Zz hs)
  ·exact oa [3,4] fun D J w hs=>Qbk (α:=Option Addr × Nat) (vs:=[.agg ((vc ((Qah p b).known))++[(.slice x14.1.1 (((Qah p b).ents).length) x14.1.2:Value),(.slice x14.2.1 (((Qah p b).ticks).length) x14.2.2:Value) ]).toArray,.int .u16 (gd (QaB (Qah p b)) k)]) (V:=fun x=>.agg #[.int .u16 ((Qa4 p b (gd (QaB (Qah p b)) k)).cart),.slice x.1 (((Qa4 p b (gd (QaB (Qah p b)) k)).lines).length) x.2,.bool ((Qa4 p b (gd (QaB (Qah p b)) k)).out),.int .u32 ((Qa4 p b (gd (QaB (Qah p b)) k)).tick)]) (Lo:=fun x=>[row (.slice x.1 ((Qa4 p b (gd (QaB (Qah p b)) k)).lines).length x.2) (((Qa4 p b (gd (QaB (Qah p b)) k)).lines).map lc) 127 2]) (F:=fun _ _=>True) QlT rfl rfl (Qd9 _ (Qah p b) x14.1.1 x14.1.2 x14.2.1 x14.2.2 (gd (QaB (Qah p b)) k) (Qa4 p b (gd (QaB (Qah p b)) k):Vw) (rfl) hsob (by omega) (by omega) (hs.rd 6 rfl) (hs.rd 7 rfl)) hs fun _ _ hs _=>⟨rfl,hs.put 13 (QQ8 rfl)⟩
  ·exact oa [] fun D J w hs=>Qc3 (cs:=[.pointer (some ⟨b21,0,none⟩)]) rfl rfl (Zz hs)
  ·exact oa [2,5,6] fun D J w hs=>QiU (α:=Unit) (vs:=[.agg #[.int .u16 ((Qa4 p a (gd (QaB (Qah p b)) k)).cart),.slice (aOf (QdX (J 47) 1)) (((Qa4 p a (gd (QaB (Qah p b)) k)).lines).length) (cOf (QdX (J 47) 1)),.bool ((Qa4 p a (gd (QaB (Qah p b)) k)).out),.int .u32 ((Qa4 p a (gd (QaB (Qah p b)) k)).tick)],.agg #[.int .u16 ((Qa4 p b (gd (QaB (Qah p b)) k)).cart),.slice (aOf (QdX (J 50) 1)) (((Qa4 p b (gd (QaB (Qah p b)) k)).lines).length) (cOf (QdX (J 50) 1)),.bool ((Qa4 p b (gd (QaB (Qah p b)) k)).out),.int .u32 ((Qa4 p b (gd (QaB (Qah p b)) k)).tick)],.func (.func 65) #[] #[.pointer (some ⟨b21,0,none⟩)]]) (V:=fun _=>.tuple #[]) (R:=Qev 60 83 b21 out) (R':=fun _=>Qev 60 83 b21 (out++QeF (Qa4 p a (gd (QaB (Qah p b)) k)) (Qa4 p b (gd (QaB (Qah p b)) k)))) (Lo:=fun _=>[]) (F:=fun _ _=>True) QvT rfl rfl hs 9 rfl (fun S hS hlS hK=>QnF _ S b21 out ((Qa4 p a (gd (QaB (Qah p b)) k)).cart) ((Qa4 p a (gd (QaB (Qah p b)) k)).lines) ((Qa4 p a (gd (QaB (Qah p b)) k)).out) ((Qa4 p a (gd (QaB (Qah p b)) k)).tick) (aOf (QdX (J 47) 1)) (cOf (QdX (J 47) 1)) ((Qa4 p b (gd (QaB (Qah p b)) k)).cart) ((Qa4 p b (gd (QaB (Qah p b)) k)).lines) ((Qa4 p b (gd (QaB (Qah p b)) k)).out) ((Qa4 p b (gd (QaB (Qah p b)) k)).tick) (aOf (QdX (J 50) 1)) (cOf (QdX (J 50) 1)) (QjA _ _ _) (QjA _ _ _) (Nat.le_trans (Qe0 _ _ _) (by omega)) (Nat.le_trans (Qe0 _ _ _) (by omega)) (fun w1 L1 h=>(hK 12 (by decide) _ rfl).rd h) (fun w1 L1 h=>(hK 13 (by decide) _ rfl).rd h) hS hlS (by omega)) fun _ _ hs _=>⟨rfl,hs⟩
  rintro J1 w30 J2 hJ hs
  replace hJ:J2=mix (sq 45 8) J1 _:=hJ
  replace hs:Own w no w30 [blk b1 (((vc p.base.known)++[(.slice a1 p.base.ents.length c1:Value),(.slice a2 p.base.ticks.length c2:Value) ])++[(.slice a3 p.ops.length c3:Value) ]++(vc p.known)) 43,blk b3 (vc a) 24,blk b5 (vc b) 24,row (.slice x8.1.1 (((Qah p a).ents).length) x8.1.2) (((Qah p a).ents).map cec) 106 7,row (.slice x8.2.1 (((Qah p a).ticks).length) x8.2.2) (((Qah p a).ticks).map lsc) 102 2,blk b9 ((vc ((Qah p a).known))++[(.slice x8.1.1 (((Qah p a).ents).length) x8.1.2:Value),(.slice x8.2.1 (((Qah p a).ticks).length) x8.2.2:Value) ]) 38,row (.slice x14.1.1 (((Qah p b).ents).length) x14.1.2) (((Qah p b).ents).map cec) 106 7,row (.slice x14.2.1 (((Qah p b).ticks).length) x14.2.2) (((Qah p b).ticks).map lsc) 102 2,blk b15 ((vc ((Qah p b).known))++[(.slice x14.1.1 (((Qah p b).ents).length) x14.1.2:Value),(.slice x14.2.1 (((Qah p b).ticks).length) x14.2.2:Value) ]) 38,Qev 60 83 b21 (out++QeF (Qa4 p a (gd (QaB (Qah p b)) k)) (Qa4 p b (gd (QaB (Qah p b)) k))),row (.slice x23.1 ((QaB (Qah p b)).length) x23.2) ((QaB (Qah p b)).map (ic .u16)) 32 1,emp,row (.slice (aOf (QdX (J1 47) 1)) (((Qa4 p a (gd (QaB (Qah p b)) k)).lines).length) (cOf (QdX (J1 47) 1))) (((Qa4 p a (gd (QaB (Qah p b)) k)).lines).map lc) 127 2,row (.slice (aOf (QdX (J1 50) 1)) (((Qa4 p b (gd (QaB (Qah p b)) k)).lines).length) (cOf (QdX (J1 50) 1))) (((Qa4 p b (gd (QaB (Qah p b)) k)).lines).map lc) 127 2]:=hs
  generalize (aOf (QdX (J1 47) 1))=na31 at hs
  generalize (cOf (QdX (J1 47) 1))=nc32 at hs
  generalize (aOf (QdX (J1 50) 1))=na33 at hs
  generalize (cOf (QdX (J1 50) 1))=nc34 at hs
  subst hJ
  refine Qab (Qaa (QaF (a:=(k:Int)) (b:=1) (c:=((k+1:Nat):Int)) rfl rfl (Qak (by omega) (by omega)) (Qaa (Qac (V:=I6 ((k+1:Nat):Int)) rfl (Qae ?_)))))
  refine ⟨_,?_,_,k+1,(out++QeF (Qa4 p a (gd (QaB (Qah p b)) k)) (Qa4 p b (gd (QaB (Qah p b)) k))),Qal (Qap (ds:=([13]++sq 41 13)) (by repeat (first|exact Agr.refl _ _|refine Agr.upd ?_ rfl|refine Agr.mix ?_ rfl))) rfl,(by omega),(Qma hout (by omega)),(by have h9:=QpO (Qa4 p a (gd (QaB (Qah p b)) k)) (Qa4 p b (gd (QaB (Qah p b)) k));rw [QQ7];omega),rfl,hs.take 12⟩
  omega
 replace c26:=QQ2 c26
 refine QaL (Qag ?_)
 obtain ⟨⟨ao9,co9⟩,hs⟩:=hs.unpack 9 rfl
 replace hs:=hs.split 9 rfl
 refine Qab (Qaa (QaQ (V:=.slice ao9 out.length co9) Qsa hs 9 rfl rfl rfl (Qaa (Qad (V:=.slice ao9 out.length co9) rfl (Qaa (Qad (V:=I6 0) rfl (Qae (Qaw ?_))))))))
 refine ⟨_,QbG (U:=.slice ao9 out.length co9) (V:=I6 0) Tryz.results22 rfl rfl,?_⟩
 have hX:Qdd p a b=0:=QmS c12 c18 c20
 rw [QoD hX hout (by omega),hX]
 exact ⟨(ao9,co9),rfl,hs.only 12 rfl,trivial⟩
end Tt
end Go.Proofs
namespace Go.Proofs
open Go Go.Vx Go.RowKit
namespace Tt
theorem QpL (w:World) (a:Option Addr) (c:Nat) (l:List Int) (g:Nat) (caps:List Value) (hg:En Tryz.prog g) (p:Int->Bool) (hp:∀ (w1:World) (L1:List Res),Own w no w1 L1->∀ x∈l,Calls Tryz.prog g ([(.int .u16 x:Value)]++caps).toArray w1 (fun e w'=>e = .returned (.bool (p x))/\Own w1 no w' [])) (hr:Rd w (.slice a l.length c) 1 (l.map (ic .u16))):Calls Tryz.prog 110 #[.slice a l.length c,.func (.func g) #[] caps.toArray] w (fun e w'=>e = .returned (.int .i64 (Qez p l))/\Own w no w' []):=by
 refine Qaj (n:=19) Tryz.func110 rfl Tryz.ntmps110 rfl ?_
 have hs:=Own.start w
 have hn:=hr.sml
 refine Qag (Qab (Qaa (Qad (V:=I6 0) rfl (Qae (Qag (Qag (Qab (Qaa (Qac (V:=.slice a l.length c) rfl (Qaa (Qa3 (n:=l.length) QaN (Rd.own' hr hs) (by simp) rfl (Qaa (Qac (V:=I6 0) rfl (Qae (Qan (QaG (fun J μ J' w'=>∃ (Jo:Env) (k:Nat),J'=upd (mix ([4,5]++sq 8 11) Jo J) 8 (I6 (k:Int))/\(k<=l.length)/\(∀ j:Nat,j<k->p (gd l j)=false)/\μ=l.length-k/\Own w no w' []) ?_ ?_))))))))))))))))
 ·exact ⟨_,_,0,Qal (Qap (ds:=([4,5]++sq 8 11)) (Agr.refl _ _)) rfl,(by omega),(fun j hj=>absurd hj (Nat.not_lt_zero j)),rfl,hs⟩
 rintro μ J' w1 ⟨Jo,k,rfl,hk,hno,rfl,hs⟩
 refine Qag (Qab (Qaa (Qa2 rfl rfl (Qae (Qag (Qam (t:=decide ((k:Int)<((l.length:Nat):Int))) rfl (fun c2=>?_) (fun c2=>?_)))))))
 ·
  replace c2:=QQ1 c2
  refine Qaq (Qag (Qan (Qag (Qab (Qaa (Qac (V:=I6 (k:Int)) rfl (Qaa (Qad (V:=I6 (k:Int)) rfl (Qae (Qag (Qab (Qaa (Qac (V:=.func (.func g) #[] caps.toArray) rfl (Qaa (Qac (V:=.slice a l.length c) rfl (Qaa (Qac (V:=I6 (k:Int)) rfl (Qaa (Qax QaN Qat.1 (Rd.own' hr hs) rfl rfl (by omega) (by rw [QQ6];omega) (Qaa (QaW (j:=0) (V:=I7 (gd l k)) k Qat (Rd.own' hr hs) (Qba (by omega)) rfl rfl (by omega) (Qaa (Qfd (vs:=[I7 (gd l k)]) (cs:=caps) (V:=.bool (p (gd l k))) hg rfl rfl (hp _ _ hs (gd l k) (QbB (by omega))) hs fun w3 hs=>(Qae (Qam (t:=p (gd l k)) rfl (fun c4=>?_) (fun c4=>?_))))))))))))))))))))))))))
  ·
   refine Qag (Qab (Qaa (Qac (V:=I6 (k:Int)) rfl (Qaa (Qad (V:=I6 (k:Int)) rfl (Qae (Qaw ?_)))))))
   refine ⟨_,Qao (V:=I6 (k:Int)) Tryz.results110 rfl,(Zr hs ?_)⟩
   exact congrArg (Value.int .i64) (Qi2 (by omega) hno c4).symm
  refine Qaq (Qab (Qaa (QaF (a:=(k:Int)) (b:=1) (c:=(k:Int)+1) rfl rfl (QbA (by omega) (by omega)) (Qaa (Qac (V:=I6 ((k:Int)+1)) rfl (Qae ?_))))))
  refine ⟨_,?_,_,k+1,Qal (Qap (ds:=([4,5]++sq 8 11)) (by repeat (first|exact Agr.refl _ _|refine Agr.upd ?_ rfl|refine Agr.mix ?_ rfl))) rfl,(by omega),(Qdi hno c4),rfl,hs.take 0⟩
  omega
 replace c2:=QQ2 c2
 refine QaL (Qag (Qab (Qaa (Qad (V:=I6 (-1)) rfl (Qae (Qaw ?_))))))
 refine ⟨_,Qao (V:=I6 (-1)) Tryz.results110 rfl,(Zr hs ?_)⟩
 exact congrArg (Value.int .i64) (QmH fun j hj=>hno j (by omega)).symm
end Tt
end Go.Proofs
namespace Go.Proofs
open Go Go.Vx Go.RowKit
namespace Tt
theorem Qoj (w:World) (S:Nat->Prop) (a:Option Addr) (c:Nat) (l:List Int) (g:Nat) (caps:List Value) (hg:En Tryz.prog g) (p:Int->Bool) (hp:∀ (w1:World) (L1:List Res),Own w S w1 L1->∀ x∈l,Calls Tryz.prog g ([(.int .u16 x:Value)]++caps).toArray w1 (fun e w'=>e = .returned (.bool (p x))/\Own w1 no w' [])) (hR:(row (.slice a l.length c) (l.map (ic .u16)) 32 1).holds w S) (hlt:∀ b,S b->b<w.heap.size):Calls Tryz.prog 67 #[.slice a l.length c,.func (.func g) #[] caps.toArray] w (fun e w'=>∃ x:Unit,e = .returned (.slice a (l.filter fun x=>!p x).length c)/\Own w S w' [row (.slice a (l.filter fun x=>!p x).length c) ((l.filter fun x=>!p x).map (ic .u16)) 32 1]/\True):=by
 refine Qaj (n:=42) Tryz.func67 rfl Tryz.ntmps67 rfl ?_
 have hs:=Own.lent hR hlt
 have hn:=(hs.rd 0 rfl).sml
 have hlc:=(hs.rd 0 rfl).roomM
 refine Qag (Qab (Qaa (Qad (V:=.slice none 0 0) rfl (Qae (Qag (Qab (Qaa (Qac (V:=.slice a l.length c) rfl (Qaa (Qac (V:=.func (.func g) #[] caps.toArray) rfl (Qaa (Qav (vs:=[.slice a l.length c,.func (.func g) #[] caps.toArray]) (V:=I6 (Qez p l)) Qup rfl rfl ?hc hs fun w1 hs=>?_))))))))))))
 case hc=>exact (QpL _ a c l g caps hg p (fun w1 L1 h=>hp w1 _ (hs.call h)) (hs.rd 0 rfl))
 refine Qaa (Qad (V:=I6 (Qez p l)) rfl (Qae (Qag (Qag ?_))))
 rcases Qke (p:=p) (l:=l) with hk2|hk2
 ·
  obtain ⟨hf1,hfl⟩:=hk2
  refine Qab (Qaa (Qa0 (V:=I6 (Qez p l)) (V':=I6 (-1)) (Qac (V:=I6 (Qez p l)) rfl ⟨rfl,rfl⟩) (congrArg (Value.int .i64) hf1) (Qaa (Qa0 (V:=.bool (decide ((-1:Int) = -1))) (V':=.bool true) (Qa1 rfl rfl ⟨rfl,rfl⟩) (congrArg Value.bool (QQ3 rfl)) (Qae (QcJ rfl ?_))))))
  refine Qag (Qab (Qaa (Qac (V:=.slice a l.length c) rfl (Qaa (Qad (V:=.slice a l.length c) rfl (Qae (Qaw ?_)))))))
  refine ⟨_,Qao (V:=.slice a l.length c) Tryz.results67 rfl,?_⟩
  rw [hfl]
  exact ⟨(),rfl,hs.take 1,trivial⟩
 obtain ⟨k0,hf1,hk0l,hpk,hft⟩:=hk2
 refine Qab (Qaa (Qa0 (V:=I6 (Qez p l)) (V':=I6 (k0:Int)) (Qac (V:=I6 (Qez p l)) rfl ⟨rfl,rfl⟩) (congrArg (Value.int .i64) hf1) (Qaa (Qa0 (V:=.bool (decide ((k0:Int) = -1))) (V':=.bool false) (Qa1 rfl rfl ⟨rfl,rfl⟩) (congrArg Value.bool (QQ4 (by omega))) (Qae (Qb8 rfl ?_))))))
 refine Qaq (Qag (Qag (Qab (Qaa (Qa0 (V:=I6 (Qez p l)) (V':=I6 (k0:Int)) (Qac (V:=I6 (Qez p l)) rfl ⟨rfl,rfl⟩) (congrArg (Value.int .i64) hf1) (Qaa (QaF (a:=(k0:Int)) (b:=1) (c:=((k0+1:Nat):Int)) rfl rfl (Qak (by omega) (by omega)) (Qaa (Qad (V:=I6 ((k0+1:Nat):Int)) rfl (Qae (Qan (QaG (fun J μ J' w'=>∃ (Jo:Env) (i:Nat) (j:Nat) (m:List Int),J'=upd (upd (mix ([5,6,7]++sq 16 20) Jo J) 5 (I6 (i:Int))) 6 (I6 (j:Int))/\(i<j)/\(j<=l.length)/\(Moved p l m i j)/\μ=l.length-j/\Own w S w' [row (.slice a l.length c) (m.map (ic .u16)) 32 1]) ?_ ?_))))))))))))
 ·exact ⟨_,_,k0,k0+1,l,Qal (Qal (Qap (ds:=([5,6,7]++sq 16 20)) (Agr.refl _ _)) (congrArg (Value.int .i64) hf1)) rfl,(by omega),(by omega),(Qge hk0l hpk hft),rfl,hs⟩
 rintro μ J' w2 ⟨Jo,i,j,m,rfl,hij,hj,hmv,rfl,hs⟩
 have hml:=hmv.1
 refine Qag (Qag (Qab (Qaa (Qac (V:=I6 (j:Int)) rfl (Qaa (Qac (V:=.slice a l.length c) rfl (Qaa (Qa3 (n:=l.length) QaN (hs.rd 0 rfl) (by simp [hmv.1]) rfl (Qaa (Qa2 rfl rfl (Qae (Qam (t:=decide ((j:Int)<((l.length:Nat):Int))) rfl (fun c3=>?_) (fun c3=>?_)))))))))))))
 ·
  replace c3:=QQ1 c3
  refine Qaq (Qag (Qan (Qag (Qab (Qaa (Qac (V:=.slice a l.length c) rfl (Qaa (Qac (V:=I6 (j:Int)) rfl (Qaa (Qax QaN Qat.1 (hs.rd 0 rfl) rfl rfl (by omega) (by rw [QQ6];omega) (Qaa (QaW (j:=0) (V:=I7 (gd m j)) j Qat (hs.rd 0 rfl) (Qba (by omega)) rfl rfl (by omega) (Qaa (Qad (V:=I7 (gd m j)) rfl (Qae (Qag (Qab (Qaa (Qac (V:=.func (.func g) #[] caps.toArray) rfl (Qaa (Qac (V:=I7 (gd m j)) rfl (Qaa (Qfd (vs:=[I7 (gd m j)]) (cs:=caps) (V:=.bool (p (gd m j))) hg rfl rfl (hp _ _ hs (gd m j) (by rw [hmv.2.2 _ (Nat.le_refl _)];exact QbB (by omega))) hs fun w4 hs=>(Qaa (Qbw rfl (Qae (Qam (t:=!(p (gd m j))) rfl (fun c5=>?_) (fun c5=>?_))))))))))))))))))))))))))))
  ·
   replace c5:=Qby c5
   refine Qag (Qab (Qaa (Qac (V:=.slice a l.length c) rfl (Qaa (Qac (V:=I6 (i:Int)) rfl (Qaa (Qac (V:=I7 (gd m j)) rfl (Qaa (Qax QaN Qat.1 (hs.rd 0 rfl) rfl rfl (by omega) (by rw [QQ6];omega) (Qaa (Qto (z:=gd m j) (vs:=[I7 (gd m j)]) i 0 Qat.1 hs 0 rfl rfl (by omega) (by first|omega|(simp only [List.length_set];omega)) rfl rfl rfl rfl (QQ8 rfl) ((Qfz .u16) _) (Qau rfl QaY) fun w6 hs=>(Qae (Qab (Qaa (Qac (V:=I6 (i:Int)) rfl (Qaa (QaF (a:=(i:Int)) (b:=1) (c:=((i+1:Nat):Int)) rfl rfl (Qak (by omega) (by omega)) (Qaa (Qad (V:=I6 ((i+1:Nat):Int)) rfl (Qae (Qab (Qaa (Qac (V:=I6 (j:Int)) rfl (Qaa (QaF (a:=(j:Int)) (b:=1) (c:=((j+1:Nat):Int)) rfl rfl (Qak (by omega) (by omega)) (Qaa (Qad (V:=I6 ((j+1:Nat):Int)) rfl (Qae ?_))))))))))))))))))))))))))))
   refine ⟨_,?_,_,i+1,j+1,m.set i (gd m j),Qal (Qal (Qap (ds:=([5,6,7]++sq 16 20)) (by repeat (first|exact Agr.refl _ _|refine Agr.upd ?_ rfl|refine Agr.mix ?_ rfl))) rfl) rfl,(by omega),(by omega),(Qg1 hmv (by omega) (by omega) c5),rfl,hs.take 1⟩
   omega
  replace c5:=Qbq c5
  refine Qaq (Qab (Qaa (Qac (V:=I6 (j:Int)) rfl (Qaa (QaF (a:=(j:Int)) (b:=1) (c:=((j+1:Nat):Int)) rfl rfl (Qak (by omega) (by omega)) (Qaa (Qad (V:=I6 ((j+1:Nat):Int)) rfl (Qae ?_))))))))
  refine ⟨_,?_,_,i,j+1,m,Qal (Qal (Qap (ds:=([5,6,7]++sq 16 20)) (by repeat (first|exact Agr.refl _ _|refine Agr.upd ?_ rfl|refine Agr.mix ?_ rfl))) rfl) rfl,(by omega),(by omega),(Qhe hmv (by omega) c5),rfl,hs.take 1⟩
  omega
 replace c3:=QQ2 c3
 refine QaL (Qag (Qab (Qaa (Qac (V:=.slice a l.length c) rfl (Qaa (Qac (V:=I6 (i:Int)) rfl (Qaa (QkL (l:=i) (h:=l.length) (m:=c) (n':=(m.drop i).length) Qqu Qat.1 (hs.rd 0 rfl) rfl (.inr ⟨_,_,rfl,rfl⟩) (.inl ⟨rfl,rfl⟩) (.inl ⟨rfl,rfl⟩) (by omega) (by omega) (Nat.le_trans (show l.length<=m.length by omega) (Rd.roomM (hs.rd 0 rfl))) (Nat.le_refl _) (by simp only [List.length_take,List.length_drop]<;>omega) ?_))))))))
 refine Qaa (QjU QmT hs 0 rfl rfl (by rw [QQ6]<;>omega) (by simp only [QQ6,List.length_drop]<;>omega) (by intro v hv;have e:=Qnr hv Qva;subst e;exact (by intro u hu;simp [Value.cells] at hu;subst hu;rfl)) fun w7 hs=>(Qae (Qag (Qab (Qaa (Qac (V:=.slice a l.length c) rfl (Qaa (Qac (V:=I6 (i:Int)) rfl (Qaa (QdU (l:=0) (h:=i) (n':=i) Qqu Qat.1 (by omega) rfl (.inl ⟨rfl,rfl⟩) (.inr ⟨_,_,rfl,rfl⟩) (by omega) (by omega) (by omega) (Qaa (Qad (V:=.slice (sla a 0 c 1) i (c-0)) rfl (Qae (Qaw ?_))))))))))))))
 refine ⟨_,Qao (V:=.slice (sla a 0 c 1) i (c-0)) Tryz.results67 rfl,?_⟩
 have he:=QhW hmv (by omega)
 have hil:i=(l.filter fun x=>!p x).length:=by rw [← he,List.length_take,hmv.1];omega
 replace hs:=hs.take 1
 simp only [List.set_cons_zero,List.take_succ_cons,List.take_zero,← List.map_take,he] at hs
 rw [← hil]
 refine ⟨(),?_,hs,trivial⟩
 rw [QeY,Nat.sub_zero]
end Tt
end Go.Proofs
namespace Go.Proofs
open Go Go.Vx Go.RowKit
namespace Tt
theorem QuC (w:World) (n:Int) (bs bn bi:Nat) (s:Sta) (a1:Option Addr) (c1:Nat) (a2:Option Addr) (c2:Nat) (now idle:Int) (hnw:0<=idle/\idle<=now/\now<4294967296) (hok:QdE s) (hle:s.ents.length<=1000) (hlt:s.ticks.length<=1000) (hcs:Qca w bs ((vc s.known)++[(.slice a1 s.ents.length c1:Value),(.slice a2 s.ticks.length c2:Value) ])) (hcn:Qca w bn [(.int .u32 now:Value)]) (hci:Qca w bi [(.int .u32 idle:Value)]) (hr1:Rd w (.slice a1 s.ents.length c1) 7 (s.ents.map cec)) (hr2:Rd w (.slice a2 s.ticks.length c2) 2 (s.ticks.map lsc)):Calls Tryz.prog 68 #[.int .u16 n,.pointer (some ⟨bs,0,none⟩),.pointer (some ⟨bn,0,none⟩),.pointer (some ⟨bi,0,none⟩)] w (fun e w'=>e = .returned (.bool (QgG (QaC s n (Qas s)) now idle))/\Own w no w' []):=by
 refine Qaj (n:=26) Tryz.func68 rfl Tryz.ntmps68 rfl ?_
 have hs:=Own.start w
 have ⟨hnw1,hnw2,hnw3⟩:=hnw
 refine Qag (Qab (Qaa (Qad (V:=.bool false) rfl (Qae (Qag (Qab (Qaa (QnA (vs:=(vc s.known)++[(.slice a1 s.ents.length c1:Value),(.slice a2 s.ticks.length c2:Value) ]) QbR (hcs.own' hs) rfl rfl rfl (Qaa (Qac (V:=I7 n) rfl (Qaa (Qbk (α:=Option Addr × Nat) (vs:=[.agg ((vc s.known)++[(.slice a1 s.ents.length c1:Value),(.slice a2 s.ticks.length c2:Value) ]).toArray,I7 n]) (V:=fun x=>.agg #[I7 ((QaC s n (Qas s)).cart),.slice x.1 (((QaC s n (Qas s)).lines).length) x.2,.bool ((QaC s n (Qas s)).out),.int .u32 ((QaC s n (Qas s)).tick)]) (Lo:=fun x=>[row (.slice x.1 ((QaC s n (Qas s)).lines).length x.2) (((QaC s n (Qas s)).lines).map lc) 127 2]) (F:=fun _ _=>True) QlT rfl rfl ?hc hs fun x2 w1 hs _=>?_))))))))))))
 case hc=>exact (Qd9 _ s a1 c1 a2 c2 n (QaC s n (Qas s):Vw) (rfl) hok hle hlt (Rd.own' hr1 hs) (Rd.own' hr2 hs))
 refine Qaa (QaM (cs:=[I7 0,.slice none 0 0,.bool false,.int .u32 0]) QhO rfl hs fun b3 w4 hs=>(Qaa (QcG (V:=.agg #[I7 ((QaC s n (Qas s)).cart),.slice x2.1 (((QaC s n (Qas s)).lines).length) x2.2,.bool ((QaC s n (Qas s)).out),.int .u32 ((QaC s n (Qas s)).tick)]) (vs:=[I7 ((QaC s n (Qas s)).cart),.slice x2.1 (((QaC s n (Qas s)).lines).length) x2.2,.bool ((QaC s n (Qas s)).out),.int .u32 ((QaC s n (Qas s)).tick)]) (cs':=[I7 ((QaC s n (Qas s)).cart),.slice x2.1 (((QaC s n (Qas s)).lines).length) x2.2,.bool ((QaC s n (Qas s)).out),.int .u32 ((QaC s n (Qas s)).tick)]) QdW.1 hs 1 rfl rfl rfl rfl rfl (QQ8 rfl) (Qau rfl (Qau rfl (Qau rfl (Qau rfl QaY)))) (QaA rfl) fun w5 hs=>(Qae (Qag (Qbv [some 10,some 11,some 12,some 13,some 14,some 15,some 16,some 17,some 18,some 19,some 20,some 21,some 22,some 23,some 24,some 25,some 5] [] [0,1,3,7,15,31,63,127,255,511,1023,511,511,6655,16383,32767,65535] [pv (Pq b3 (0+1)),pv (.slice x2.1 (((QaC s n (Qas s)).lines).length) x2.2),pv (I6 ((((QaC s n (Qas s)).lines).length:Nat):Int)),pv (.bool (decide (((((QaC s n (Qas s)).lines).length:Nat):Int)=0))),pv (.bool (decide (((((QaC s n (Qas s)).lines).length:Nat):Int)=0))),pg ((decide (((((QaC s n (Qas s)).lines).length:Nat):Int)=0)) == false) (Pq b3 (0+2)),pg ((decide (((((QaC s n (Qas s)).lines).length:Nat):Int)=0)) == false) (.bool ((QaC s n (Qas s)).out)),pv (.bool ((decide (((((QaC s n (Qas s)).lines).length:Nat):Int)=0))||((QaC s n (Qas s)).out))),pv (.bool ((decide (((((QaC s n (Qas s)).lines).length:Nat):Int)=0))||((QaC s n (Qas s)).out))),pg (((decide (((((QaC s n (Qas s)).lines).length:Nat):Int)=0))||((QaC s n (Qas s)).out)) == false) (Pq b3 (0+3)),pg (((decide (((((QaC s n (Qas s)).lines).length:Nat):Int)=0))||((QaC s n (Qas s)).out)) == false) (.int .u32 ((QaC s n (Qas s)).tick)),pg (((decide (((((QaC s n (Qas s)).lines).length:Nat):Int)=0))||((QaC s n (Qas s)).out)) == false) (.int .u32 now),pg (((decide (((((QaC s n (Qas s)).lines).length:Nat):Int)=0))||((QaC s n (Qas s)).out)) == false) (.int .u32 idle),pg (((decide (((((QaC s n (Qas s)).lines).length:Nat):Int)=0))||((QaC s n (Qas s)).out)) == false) (.int .u32 (now-idle)),pg (((decide (((((QaC s n (Qas s)).lines).length:Nat):Int)=0))||((QaC s n (Qas s)).out)) == false) (.bool (decide (now-idle<(QaC s n (Qas s)).tick))),pv (.bool (((decide (((((QaC s n (Qas s)).lines).length:Nat):Int)=0))||((QaC s n (Qas s)).out))||(decide (now-idle<(QaC s n (Qas s)).tick)))),pv (.bool (((decide (((((QaC s n (Qas s)).lines).length:Nat):Int)=0))||((QaC s n (Qas s)).out))||(decide (now-idle<(QaC s n (Qas s)).tick))))] (fun _ _=>_) [16] (by kernel_rfl) hs ⟨?_,?_,?_,?_,?_,?_,?_,?_,?_,?_,?_,?_,?_,?_,?_,?_,?_,trivial⟩ ?_))))))
 ·exact oa [] fun D J w hs=>Qaf Qc6 rfl (Zz hs)
 ·exact oa [0] fun D J w hs=>QaQ (V:=.slice x2.1 (((QaC s n (Qas s)).lines).length) x2.2) QgF hs 1 rfl rfl rfl (Zz hs)
 ·exact oa [1] fun D J w hs=>Qa3 (n:=((QaC s n (Qas s)).lines).length) Qdc (hs.rd 0 rfl) (by simp) rfl (Zz hs)
 ·exact oa [2] fun D J w hs=>Qa1 rfl rfl (Zz hs)
 ·exact oa [3] fun D J w hs=>Qac (V:=.bool (decide (((((QaC s n (Qas s)).lines).length:Nat):Int)=0))) rfl (Zz hs)
 ·exact og [4] fun D J w hG hs=>Qaf Qd4 rfl (Zz hs)
 ·exact oy [4,5] [5] fun D J w hG hs=>QaQ (V:=.bool ((QaC s n (Qas s)).out)) Qp1 hs 1 rfl rfl rfl (Zz hs)
 ·exact oa [4,6] fun D J w hs=>Qb4 (h':=(QaC s n (Qas s)).out) rfl rfl rfl (Zz hs)
 ·exact oa [7] fun D J w hs=>Qac (V:=.bool ((decide (((((QaC s n (Qas s)).lines).length:Nat):Int)=0))||((QaC s n (Qas s)).out))) rfl (Zz hs)
 ·exact og [8] fun D J w hG hs=>Qaf Qd7 rfl (Zz hs)
 ·exact oy [8,9] [9] fun D J w hG hs=>QaQ (V:=.int .u32 ((QaC s n (Qas s)).tick)) QaU hs 1 rfl rfl rfl (Zz hs)
 ·exact og [8] fun D J w hG hs=>QoV (V:=.int .u32 now) QaU (hcn.own' hs) rfl rfl (Zz hs)
 ·exact og [8] fun D J w hG hs=>QoV (V:=.int .u32 idle) QaU (hci.own' hs) rfl rfl (Zz hs)
 ·exact oy [8,11,12] [11,12] fun D J w hG hs=>Qa6 (a:=now) (b:=idle) (c:=now-idle) rfl rfl (Qg2 (by omega) (by omega)) (Zz hs)
 ·exact oy [8,10,13] [10,13] fun D J w hG hs=>Qb2 rfl rfl (Zz hs)
 ·exact oa [8,14] fun D J w hs=>Qb4 (h':=decide (now-idle<(QaC s n (Qas s)).tick)) rfl rfl rfl (Zz hs)
 ·exact oa [15] fun D J w hs=>Qad (V:=.bool (((decide (((((QaC s n (Qas s)).lines).length:Nat):Int)=0))||((QaC s n (Qas s)).out))||(decide (now-idle<(QaC s n (Qas s)).tick)))) rfl (Zz hs)
 rintro J1 w6 J2 hJ hs
 replace hJ:J2=upd (mix (sq 10 16++[5]) J1 _) 5 (.bool (((decide (((((QaC s n (Qas s)).lines).length:Nat):Int)=0))||((QaC s n (Qas s)).out))||(decide (now-idle<(QaC s n (Qas s)).tick)))):=hJ
 subst hJ
 refine Qaw ?_
 refine ⟨_,Qao (V:=.bool (((decide (((((QaC s n (Qas s)).lines).length:Nat):Int)=0))||((QaC s n (Qas s)).out))||(decide (now-idle<(QaC s n (Qas s)).tick)))) Tryz.results68 rfl,(Zr hs ?_)⟩
 rfl
end Tt
end Go.Proofs
namespace Go.Proofs
open Go Go.Vx Go.RowKit
namespace Tt
theorem QsE (w:World) (p:Pst) (a1:Option Addr) (c1:Nat) (a2:Option Addr) (c2:Nat) (a3:Option Addr) (c3:Nat) (cut:Vec) (hcut:QbN cut) (now idle:Int) (hb2:(0<=now/\now<4294967296)/\0<=idle) (hsortE:QgJ Tryz.prog 48 49 cec 106 7 Qkt) (hsortU:QgI Tryz.prog 134 .u16 32) (hok:Qdq p) (hle:p.base.ents.length<=400) (hlt:p.base.ticks.length<=400) (hlo:p.ops.length<=400) (hr1:Rd w (.slice a1 p.base.ents.length c1) 7 (p.base.ents.map cec)) (hr2:Rd w (.slice a2 p.base.ticks.length c2) 2 (p.base.ticks.map lsc)) (hr3:Rd w (.slice a3 p.ops.length c3) 23 (p.ops.map oc)):Calls Tryz.prog 25 #[.agg (((vc p.base.known)++[(.slice a1 p.base.ents.length c1:Value),(.slice a2 p.base.ticks.length c2:Value) ])++[(.slice a3 p.ops.length c3:Value) ]++(vc p.known)).toArray,.agg (vc cut).toArray,.int .u32 now,.int .u32 idle] w (fun e w'=>∃ x:Option Addr × Nat,e = .returned (.tuple #[.slice x.1 (abR p cut now idle).length x.2,.int .i64 (abI p cut now idle)])/\Own w no w' [row (.slice x.1 (abR p cut now idle).length x.2) ((abR p cut now idle).map (ic .u16)) 32 1]/\True):=by
 refine Qaj (n:=30) Tryz.func25 rfl Tryz.ntmps25 rfl ?_
 have hs:=Own.start w
 have ⟨hokb,hoko,hokk⟩:=hok
 have hsl:=QdM p cut
 have hso:=QeO (cut:=cut) hok hcut
 have hcl:=Qh1 (Qah p cut)
 refine Qag (Qab (Qaa (Qa5 (V:=.agg (((vc p.base.known)++[(.slice a1 p.base.ents.length c1:Value),(.slice a2 p.base.ticks.length c2:Value) ])++[(.slice a3 p.ops.length c3:Value) ]++(vc p.known)).toArray) (cs:=((vc p.base.known)++[(.slice a1 p.base.ents.length c1:Value),(.slice a2 p.base.ticks.length c2:Value) ])++[(.slice a3 p.ops.length c3:Value) ]++(vc p.known)) rfl rfl hs fun b1 w2 hs=>(Qaa (Qa5 (V:=.agg (vc cut).toArray) (cs:=vc cut) rfl rfl hs fun b3 w4 hs=>(Qaa (Qa5 (V:=.int .u32 now) (cs:=[.int .u32 now]) rfl rfl hs fun b5 w6 hs=>(Qaa (Qa5 (V:=.int .u32 idle) (cs:=[.int .u32 idle]) rfl rfl hs fun b7 w8 hs=>?_)))))))))
 replace hs:Own w no w8 [blk b1 (((vc p.base.known)++[(.slice a1 p.base.ents.length c1:Value),(.slice a2 p.base.ticks.length c2:Value) ])++[(.slice a3 p.ops.length c3:Value) ]++(vc p.known)) 43,blk b3 (vc cut) 24,blk b5 [.int .u32 now] 22,blk b7 [.int .u32 idle] 22]:=hs
 refine Qaa (Qad (V:=.slice none 0 0) rfl (Qaa (Qad (V:=I6 0) rfl (Qae (Qag (Qab (Qaa (QaP (cs:=((vc p.base.known)++[(.slice a1 p.base.ents.length c1:Value),(.slice a2 p.base.ticks.length c2:Value) ])++[(.slice a3 p.ops.length c3:Value) ]++(vc p.known)) QcZ hs 0 rfl rfl rfl (Qaa (QaP (cs:=vc cut) Qbs hs 1 rfl rfl rfl (Qaa (Qbk (α:=(Option Addr × Nat) × (Option Addr × Nat)) (vs:=[.agg (((vc p.base.known)++[(.slice a1 p.base.ents.length c1:Value),(.slice a2 p.base.ticks.length c2:Value) ])++[(.slice a3 p.ops.length c3:Value) ]++(vc p.known)).toArray,.agg (vc cut).toArray]) (V:=fun x:(Option Addr × Nat) × (Option Addr × Nat)=>.tuple #[.agg (vc (Qah p cut).known++[(.slice x.1.1 ((Qah p cut).ents).length x.1.2:Value),(.slice x.2.1 ((Qah p cut).ticks).length x.2.2:Value)]).toArray,I6 (QaK p cut)]) (Lo:=fun x=>[row (.slice x.1.1 ((Qah p cut).ents).length x.1.2) (((Qah p cut).ents).map cec) 106 7,row (.slice x.2.1 ((Qah p cut).ticks).length x.2.2) (((Qah p cut).ticks).map lsc) 102 2]) (F:=fun _ _=>True) QlW rfl rfl ?hc hs fun x10 w9 hs _=>?_))))))))))))
 case hc=>exact (Qd8 _ p a1 c1 a2 c2 a3 c3 cut hcut hsortE hsortU hok hle hlt hlo (Rd.own' hr1 hs) (Rd.own' hr2 hs) (Rd.own' hr3 hs))
 refine Qaa (Qac (V:=.tuple #[.agg ((vc ((Qah p cut).known))++[(.slice x10.1.1 (((Qah p cut).ents).length) x10.1.2:Value),(.slice x10.2.1 (((Qah p cut).ticks).length) x10.2.2:Value) ]).toArray,I6 (QaK p cut)]) rfl (Qaa (Qay (V:=.agg ((vc ((Qah p cut).known))++[(.slice x10.1.1 (((Qah p cut).ents).length) x10.1.2:Value),(.slice x10.2.1 (((Qah p cut).ticks).length) x10.2.2:Value) ]).toArray) rfl rfl (Qaa (Qay (V:=I6 (QaK p cut)) rfl rfl (Qaa (QaM (cs:=(vc vzero)++[(.slice none 0 0:Value),(.slice none 0 0:Value) ]) QfI rfl hs fun b11 w12 hs=>(Qaa (QcG (V:=.agg ((vc ((Qah p cut).known))++[(.slice x10.1.1 (((Qah p cut).ents).length) x10.1.2:Value),(.slice x10.2.1 (((Qah p cut).ticks).length) x10.2.2:Value) ]).toArray) (vs:=(vc ((Qah p cut).known))++[(.slice x10.1.1 (((Qah p cut).ents).length) x10.1.2:Value),(.slice x10.2.1 (((Qah p cut).ticks).length) x10.2.2:Value) ]) (cs':=(vc ((Qah p cut).known))++[(.slice x10.1.1 (((Qah p cut).ents).length) x10.1.2:Value),(.slice x10.2.1 (((Qah p cut).ticks).length) x10.2.2:Value) ]) QbR.1 hs 6 rfl rfl rfl rfl rfl (QQ8 rfl) (Qbn (QbS _) (Qau rfl (Qau rfl QaY))) (QaA rfl) fun w13 hs=>(Qaa (Qad (V:=I6 (QaK p cut)) rfl (Qae (Qag (Qan (Qag (Qab (Qaa (Qac (V:=I6 (QaK p cut)) rfl (Qaa (Qcq rfl rfl (Qaa (Qad (V:=.bool (!decide (QaK p cut=0))) rfl (Qae (Qam (t:=!decide (QaK p cut=0)) rfl (fun c14=>?_) (fun c14=>?_)))))))))))))))))))))))))
 ·
  replace c14:=Qby c14
  replace c14:=QQ2 c14
  refine Qag (Qab (Qaa (Qac (V:=I6 (QaK p cut)) rfl (Qaa (Qad (V:=.slice none 0 0) rfl (Qaa (Qad (V:=I6 (QaK p cut)) rfl (Qae (Qaw ?_)))))))))
  refine ⟨_,QbG (U:=.slice none 0 0) (V:=I6 (QaK p cut)) Tryz.results25 rfl rfl,?_⟩
  have hX:abI p cut now idle=QaK p cut:=Qvi c14
  rw [QsV (by rw [hX];exact c14),hX]
  exact ⟨(none,0),rfl,(hs.take 0).more _ (Qbf _ _ _ _),trivial⟩
 replace c14:=Qbq c14
 replace c14:=QQ1 c14
 refine Qag (Qab (Qaa (QaQ (V:=.int .u32 idle) QaU hs 3 rfl rfl rfl (Qaa (QaQ (V:=.int .u32 now) QaU hs 2 rfl rfl rfl (Qaa (Qb2 rfl rfl (Qaa (Qad (V:=.bool (decide (now<idle))) rfl (Qae (Qam (t:=decide (now<idle)) rfl (fun c15=>?_) (fun c15=>?_))))))))))))
 ·
  replace c15:=QQ1 c15
  refine Qag (Qab (Qaa (Qad (V:=.slice none 0 0) rfl (Qaa (Qad (V:=I6 2) rfl (Qae (Qaw ?_)))))))
  refine ⟨_,QbG (U:=.slice none 0 0) (V:=I6 2) Tryz.results25 rfl rfl,?_⟩
  have hX:abI p cut now idle=2:=Qvk c14 c15
  rw [QsV (by rw [hX];decide),hX]
  exact ⟨(none,0),rfl,(hs.take 0).more _ (Qbf _ _ _ _),trivial⟩
 replace c15:=QQ2 c15
 refine Qaq (Qag ?_)
 have hnow:0<=idle/\idle<=now/\now<4294967296:=by omega
 refine Qab (Qaa (QaP (cs:=(vc ((Qah p cut).known))++[(.slice x10.1.1 (((Qah p cut).ents).length) x10.1.2:Value),(.slice x10.2.1 (((Qah p cut).ticks).length) x10.2.2:Value) ]) QbR hs 6 rfl rfl rfl (Qaa (Qbk (vs:=[.agg ((vc ((Qah p cut).known))++[(.slice x10.1.1 (((Qah p cut).ents).length) x10.1.2:Value),(.slice x10.2.1 (((Qah p cut).ticks).length) x10.2.2:Value) ]).toArray]) (V:=fun x:Option Addr × Nat=>.slice x.1 (QaB (Qah p cut)).length x.2) QtI rfl rfl (Qif _ (Qah p cut) x10.1.1 x10.1.2 x10.2.1 x10.2.2 hso (by omega) (by omega) (hs.rd 4 rfl) (hs.rd 5 rfl)) hs fun x16 w17 hs _=>?_))))
 replace hs:Own w no w17 [blk b1 (((vc p.base.known)++[(.slice a1 p.base.ents.length c1:Value),(.slice a2 p.base.ticks.length c2:Value) ])++[(.slice a3 p.ops.length c3:Value) ]++(vc p.known)) 43,blk b3 (vc cut) 24,blk b5 [.int .u32 now] 22,blk b7 [.int .u32 idle] 22,row (.slice x10.1.1 (((Qah p cut).ents).length) x10.1.2) (((Qah p cut).ents).map cec) 106 7,row (.slice x10.2.1 (((Qah p cut).ticks).length) x10.2.2) (((Qah p cut).ticks).map lsc) 102 2,blk b11 ((vc ((Qah p cut).known))++[(.slice x10.1.1 (((Qah p cut).ents).length) x10.1.2:Value),(.slice x10.2.1 (((Qah p cut).ticks).length) x10.2.2:Value) ]) 38,row (.slice x16.1 ((QaB (Qah p cut)).length) x16.2) ((QaB (Qah p cut)).map (ic .u16)) 32 1]:=hs
 refine Qaa (Qc3 (cs:=[Pq b11 0,Pq b5 0,Pq b7 0]) rfl rfl (Qaa (QiU (α:=Unit) (vs:=[.slice x16.1 ((QaB (Qah p cut)).length) x16.2,.func (.func 68) #[] #[Pq b11 0,Pq b5 0,Pq b7 0]]) (V:=fun _=>.slice x16.1 ((QaB (Qah p cut)).filter fun x=>!(fun n=>QgG (Qa4 p cut n) now idle) x).length x16.2) (R:=row (.slice x16.1 ((QaB (Qah p cut)).length) x16.2) ((QaB (Qah p cut)).map (ic .u16)) 32 1) (R':=fun _=>row (.slice x16.1 ((QaB (Qah p cut)).filter fun x=>!(fun n=>QgG (Qa4 p cut n) now idle) x).length x16.2) (((QaB (Qah p cut)).filter fun x=>!(fun n=>QgG (Qa4 p cut n) now idle) x).map (ic .u16)) 32 1) (Lo:=fun _=>[]) (F:=fun _ _=>True) QvN rfl rfl hs 7 rfl (fun S hS hlS hK=>Qoj _ S x16.1 x16.2 (QaB (Qah p cut)) 68 [Pq b11 0,Pq b5 0,Pq b7 0] QvA (fun n=>QgG (Qa4 p cut n) now idle) (fun w1 L1 h x hx=>QuC w1 x b11 b5 b7 (Qah p cut) x10.1.1 x10.1.2 x10.2.1 x10.2.2 now idle hnow hso (by omega) (by omega) ((hK 6 (by decide) _ rfl).cells h) ((hK 2 (by decide) _ rfl).cells h) ((hK 3 (by decide) _ rfl).cells h) ((hK 4 (by decide) _ rfl).rd h) ((hK 5 (by decide) _ rfl).rd h)) hS hlS) fun _ w18 hs _=>(Qaa (Qad (V:=.slice x16.1 (((QaB (Qah p cut)).filter fun x=>!(fun n=>QgG (Qa4 p cut n) now idle) x).length) x16.2) rfl (Qaa (Qad (V:=I6 0) rfl (Qae (Qaw ?_)))))))))
 refine ⟨_,QbG (U:=.slice x16.1 (((QaB (Qah p cut)).filter fun x=>!(fun n=>QgG (Qa4 p cut n) now idle) x).length) x16.2) (V:=I6 0) Tryz.results25 rfl rfl,?_⟩
 have hX:abI p cut now idle=0:=QsL c14 c15
 rw [Qp6 hX,hX]
 exact ⟨(x16.1,x16.2),rfl,hs.only 7 rfl,trivial⟩
end Tt
end Go.Proofs
namespace Go.Proofs
open Go Go.Vx Go.RowKit
namespace Tt
theorem QkQ (w:World) (hsortE:QgJ Tryz.prog 48 49 cec 106 7 Qkt) (hsortU:QgI Tryz.prog 134 .u16 32):Calls Tryz.prog 10 #[] w (fun e w'=>e = .returned (.bool true)/\Own w no w' []):=by
 refine Qaj (n:=101) Tryz.func10 rfl Tryz.ntmps10 rfl ?_
 have hs:=Own.start w
 refine Qag (Qab (Qaa (Qad (V:=.bool false) rfl (Qae (Qag (Qab (Qaa (QbI (vs:=[(1,.int .u32 1)]) (cs:=dc (⟨0,1⟩:Dot)) QvH (rfl) rfl (Qaa (Qa0 (V:=.agg (oc (⟨(⟨0,1⟩:Dot),1,3,4,2,5,vzero⟩:Opn)).toArray) (V':=.agg (oc Qp0).toArray) (QcA (vs:=[(0,.agg (dc (⟨0,1⟩:Dot)).toArray),(1,.int .u8 1),(2,I7 3),(3,I7 4),(4,I7 2),(5,.int .u32 5)]) (cs:=oc (⟨(⟨0,1⟩:Dot),1,3,4,2,5,vzero⟩:Opn)) [dc (⟨0,0⟩:Dot),[(.int .u8 0:Value)],[(I7 0:Value)],[(I7 0:Value)],[(I7 0:Value)],[(.int .u32 0:Value)],vc vzero] [dc (⟨0,1⟩:Dot),[(.int .u8 1:Value)],[(I7 3:Value)],[(I7 4:Value)],[(I7 2:Value)],[(.int .u32 5:Value)],vc vzero] QqX rfl (rfl) rfl rfl ⟨rfl,rfl⟩) rfl (Qaa (QhP (vals:=[.agg (oc Qp0).toArray]) (ls:=List.map oc ([Qp0]:List Opn)) QiS rfl rfl rfl (Qbm (enc:=oc) (fun _=>rfl) _) (QaV Qc5 _) (QQ8 rfl) hs fun b1 w2 hs=>(Qaa (Qa0 (V:=.agg (vc (vset vzero 0 1)).toArray) (V':=.agg (vc alK).toArray) (QbI (vs:=[(0,.int .u32 1)]) (cs:=vc (vset vzero 0 1)) Qic (rfl) rfl ⟨rfl,rfl⟩) rfl (Qaa (QcA (vs:=[(1,.slice (some ⟨b1,0,none⟩) 1 1),(2,.agg (vc alK).toArray)]) (cs:=((vc vzero)++[(.slice none 0 0:Value),(.slice none 0 0:Value) ])++[(.slice (some ⟨b1,0,none⟩) 1 1:Value) ]++(vc alK)) [(vc vzero)++[(.slice none 0 0:Value),(.slice none 0 0:Value) ],[(.slice none 0 0:Value)],vc vzero] [(vc vzero)++[(.slice none 0 0:Value),(.slice none 0 0:Value) ],[(.slice (some ⟨b1,0,none⟩) 1 1:Value)],vc alK] Qrw rfl (rfl) rfl rfl (Qaa (QaM (cs:=((vc vzero)++[(.slice none 0 0:Value),(.slice none 0 0:Value) ])++[(.slice none 0 0:Value) ]++(vc vzero)) QoW rfl hs fun b3 w4 hs=>(Qaa (QcG (V:=.agg (((vc vzero)++[(.slice none 0 0:Value),(.slice none 0 0:Value) ])++[(.slice (some ⟨b1,0,none⟩) 1 1:Value) ]++(vc alK)).toArray) (vs:=((vc vzero)++[(.slice none 0 0:Value),(.slice none 0 0:Value) ])++[(.slice (some ⟨b1,0,none⟩) 1 1:Value) ]++(vc alK)) (cs':=((vc vzero)++[(.slice none 0 0:Value),(.slice none 0 0:Value) ])++[(.slice (some ⟨b1,0,none⟩) 1 1:Value) ]++(vc alK)) QcZ.1 hs 1 rfl rfl rfl rfl rfl (QQ8 rfl) (Qbn (Qbn (Qbn (QbS _) (Qau rfl (Qau rfl QaY))) (Qau rfl QaY)) (QbS _)) (QaA rfl) fun w5 hs=>(Qae (Qag (Qab (Qaa (QaP (cs:=((vc vzero)++[(.slice none 0 0:Value),(.slice none 0 0:Value) ])++[(.slice (some ⟨b1,0,none⟩) 1 1:Value) ]++(vc alK)) QcZ hs 1 rfl rfl rfl (Qaa (Qa0 (V:=.agg (vc (vset vzero 0 1)).toArray) (V':=.agg (vc alK).toArray) (QbI (vs:=[(0,.int .u32 1)]) (cs:=vc (vset vzero 0 1)) Qic (rfl) rfl ⟨rfl,rfl⟩) rfl (Qaa (Qbk (α:=Option Addr × Nat) (vs:=[.agg (((vc vzero)++[(.slice none 0 0:Value),(.slice none 0 0:Value) ])++[(.slice (some ⟨b1,0,none⟩) 1 1:Value) ]++(vc alK)).toArray,.agg (vc alK).toArray,I7 3]) (V:=fun x=>.tuple #[.agg #[I7 ((Qar alP alK 3).cart),.slice x.1 (((Qar alP alK 3).lines).length) x.2,.bool ((Qar alP alK 3).out),.int .u32 ((Qar alP alK 3).tick)],I6 (QaK alP alK)]) (Lo:=fun x=>[row (.slice x.1 ((Qar alP alK 3).lines).length x.2) (((Qar alP alK 3).lines).map lc) 127 2]) (F:=fun _ _=>True) Qml rfl rfl ?hc hs fun x7 w6 hs _=>?_)))))))))))))))))))))))))))))
 case hc=>exact (QeU _ alP none 0 none 0 (some ⟨b1,0,none⟩) 1 alK Qh6 3 hsortE hsortU Qg9 (by decide) (by decide) (by decide) (Rd.nil _ 7) (Rd.nil _ 2) (hs.rd 0 rfl))
 replace hs:Own w no w6 [row (.slice (some ⟨b1,0,none⟩) 1 1) ([Qp0].map oc) 98 23,blk b3 (((vc vzero)++[(.slice none 0 0:Value),(.slice none 0 0:Value) ])++[(.slice (some ⟨b1,0,none⟩) 1 1:Value) ]++(vc alK)) 43,row (.slice x7.1 (((Qar alP alK 3).lines).length) x7.2) (((Qar alP alK 3).lines).map lc) 127 2]:=hs
 refine Qaa (Qac (V:=.tuple #[.agg #[I7 ((Qar alP alK 3).cart),.slice x7.1 (((Qar alP alK 3).lines).length) x7.2,.bool ((Qar alP alK 3).out),.int .u32 ((Qar alP alK 3).tick)],I6 (QaK alP alK)]) rfl (Qaa (Qay (V:=.agg #[I7 ((Qar alP alK 3).cart),.slice x7.1 (((Qar alP alK 3).lines).length) x7.2,.bool ((Qar alP alK 3).out),.int .u32 ((Qar alP alK 3).tick)]) rfl rfl (Qaa (Qay (V:=I6 (QaK alP alK)) rfl rfl (Qaa (QaM (cs:=[I7 0,.slice none 0 0,.bool false,.int .u32 0]) QhO rfl hs fun b8 w9 hs=>(Qaa (QcG (V:=.agg #[I7 ((Qar alP alK 3).cart),.slice x7.1 (((Qar alP alK 3).lines).length) x7.2,.bool ((Qar alP alK 3).out),.int .u32 ((Qar alP alK 3).tick)]) (vs:=[I7 ((Qar alP alK 3).cart),.slice x7.1 (((Qar alP alK 3).lines).length) x7.2,.bool ((Qar alP alK 3).out),.int .u32 ((Qar alP alK 3).tick)]) (cs':=[I7 ((Qar alP alK 3).cart),.slice x7.1 (((Qar alP alK 3).lines).length) x7.2,.bool ((Qar alP alK 3).out),.int .u32 ((Qar alP alK 3).tick)]) QdW.1 hs 3 rfl rfl rfl rfl rfl (QQ8 rfl) (Qau rfl (Qau rfl (Qau rfl (Qau rfl QaY)))) (QaA rfl) fun w10 hs=>(Qaa (Qad (V:=I6 (QaK alP alK)) rfl (Qae (Qag (Qab (Qaa (QaP (cs:=((vc vzero)++[(.slice none 0 0:Value),(.slice none 0 0:Value) ])++[(.slice (some ⟨b1,0,none⟩) 1 1:Value) ]++(vc alK)) QcZ hs 1 rfl rfl rfl (Qaa (QbI (vs:=[]) (cs:=vc vzero) Qic (rfl) rfl (Qaa (Qa0 (V:=.agg (vc (vset vzero 0 1)).toArray) (V':=.agg (vc alK).toArray) (QbI (vs:=[(0,.int .u32 1)]) (cs:=vc (vset vzero 0 1)) Qic (rfl) rfl ⟨rfl,rfl⟩) rfl (Qaa (Qbk (vs:=[.agg (((vc vzero)++[(.slice none 0 0:Value),(.slice none 0 0:Value) ])++[(.slice (some ⟨b1,0,none⟩) 1 1:Value) ]++(vc alK)).toArray,.agg (vc vzero).toArray,.agg (vc alK).toArray]) (V:=fun x:Option Addr × Nat=>.tuple #[.slice x.1 (QcU alP vzero alK).length x.2,I6 (Qdd alP vzero alK)]) QuR rfl rfl (Qo6 _ alP none 0 none 0 (some ⟨b1,0,none⟩) 1 vzero alK QcC Qh6 hsortE hsortU Qg9 (by decide) (by decide) (by decide) (Rd.nil _ 7) (Rd.nil _ 2) (hs.rd 0 rfl)) hs fun x12 w11 hs _=>(Qaa (Qac (V:=.tuple #[.slice x12.1 ((QcU alP vzero alK).length) x12.2,I6 (Qdd alP vzero alK)]) rfl (Qaa (Qay (V:=.slice x12.1 ((QcU alP vzero alK).length) x12.2) rfl rfl (Qaa (Qay (V:=I6 (Qdd alP vzero alK)) rfl rfl (Qaa (Qad (V:=.slice x12.1 ((QcU alP vzero alK).length) x12.2) rfl (Qaa (Qad (V:=I6 (Qdd alP vzero alK)) rfl (Qae (Qag (Qab (Qaa (QaP (cs:=((vc vzero)++[(.slice none 0 0:Value),(.slice none 0 0:Value) ])++[(.slice (some ⟨b1,0,none⟩) 1 1:Value) ]++(vc alK)) QcZ hs 1 rfl rfl rfl (Qaa (Qa0 (V:=.agg (vc (vset vzero 0 1)).toArray) (V':=.agg (vc alK).toArray) (QbI (vs:=[(0,.int .u32 1)]) (cs:=vc (vset vzero 0 1)) Qic (rfl) rfl ⟨rfl,rfl⟩) rfl (Qaa (Qbk (vs:=[.agg (((vc vzero)++[(.slice none 0 0:Value),(.slice none 0 0:Value) ])++[(.slice (some ⟨b1,0,none⟩) 1 1:Value) ]++(vc alK)).toArray,.agg (vc alK).toArray,.int .u32 9,.int .u32 4]) (V:=fun x:Option Addr × Nat=>.tuple #[.slice x.1 (abR alP alK 9 4).length x.2,I6 (abI alP alK 9 4)]) QuS rfl rfl (QsE _ alP none 0 none 0 (some ⟨b1,0,none⟩) 1 alK Qh6 9 4 ⟨⟨by decide,by decide⟩,by decide⟩ hsortE hsortU Qg9 (by decide) (by decide) (by decide) (Rd.nil _ 7) (Rd.nil _ 2) (hs.rd 0 rfl)) hs fun x14 w13 hs _=>?_)))))))))))))))))))))))))))))))))))))))))
 replace hs:Own w no w13 [row (.slice (some ⟨b1,0,none⟩) 1 1) ([Qp0].map oc) 98 23,blk b3 (((vc vzero)++[(.slice none 0 0:Value),(.slice none 0 0:Value) ])++[(.slice (some ⟨b1,0,none⟩) 1 1:Value) ]++(vc alK)) 43,row (.slice x7.1 (((Qar alP alK 3).lines).length) x7.2) (((Qar alP alK 3).lines).map lc) 127 2,blk b8 [I7 ((Qar alP alK 3).cart),.slice x7.1 (((Qar alP alK 3).lines).length) x7.2,.bool ((Qar alP alK 3).out),.int .u32 ((Qar alP alK 3).tick)] 49,row (.slice x12.1 ((QcU alP vzero alK).length) x12.2) ((QcU alP vzero alK).map dfc) 83 5,row (.slice x14.1 ((abR alP alK 9 4).length) x14.2) ((abR alP alK 9 4).map (ic .u16)) 32 1]:=hs
 refine Qaa (Qac (V:=.tuple #[.slice x14.1 ((abR alP alK 9 4).length) x14.2,I6 (abI alP alK 9 4)]) rfl (Qaa (Qay (V:=.slice x14.1 ((abR alP alK 9 4).length) x14.2) rfl rfl (Qaa (Qay (V:=I6 (abI alP alK 9 4)) rfl rfl (Qaa (Qad (V:=.slice x14.1 ((abR alP alK 9 4).length) x14.2) rfl (Qaa (Qad (V:=I6 (abI alP alK 9 4)) rfl (Qae (Qag (Qab (Qaa (QaP (cs:=((vc vzero)++[(.slice none 0 0:Value),(.slice none 0 0:Value) ])++[(.slice (some ⟨b1,0,none⟩) 1 1:Value) ]++(vc alK)) QcZ hs 1 rfl rfl rfl (Qaa (Qa0 (V:=.agg (vc (vset vzero 0 2)).toArray) (V':=.agg (vc Qdp).toArray) (QbI (vs:=[(0,.int .u32 2)]) (cs:=vc (vset vzero 0 2)) Qic (rfl) rfl ⟨rfl,rfl⟩) rfl (Qaa (Qbk (α:=Option Addr × Nat) (vs:=[.agg (((vc vzero)++[(.slice none 0 0:Value),(.slice none 0 0:Value) ])++[(.slice (some ⟨b1,0,none⟩) 1 1:Value) ]++(vc alK)).toArray,.agg (vc Qdp).toArray,I7 3]) (V:=fun x=>.tuple #[.agg #[I7 ((Qar alP Qdp 3).cart),.slice x.1 (((Qar alP Qdp 3).lines).length) x.2,.bool ((Qar alP Qdp 3).out),.int .u32 ((Qar alP Qdp 3).tick)],I6 (QaK alP Qdp)]) (Lo:=fun x=>[row (.slice x.1 ((Qar alP Qdp 3).lines).length x.2) (((Qar alP Qdp 3).lines).map lc) 127 2]) (F:=fun _ _=>True) Qml rfl rfl ?hc hs fun x16 w15 hs _=>?_))))))))))))))))))
 case hc=>exact (QeU _ alP none 0 none 0 (some ⟨b1,0,none⟩) 1 Qdp QrX 3 hsortE hsortU Qg9 (by decide) (by decide) (by decide) (Rd.nil _ 7) (Rd.nil _ 2) (hs.rd 0 rfl))
 refine Qaa (Qac (V:=.tuple #[.agg #[I7 ((Qar alP Qdp 3).cart),.slice x16.1 (((Qar alP Qdp 3).lines).length) x16.2,.bool ((Qar alP Qdp 3).out),.int .u32 ((Qar alP Qdp 3).tick)],I6 (QaK alP Qdp)]) rfl (Qaa (Qay (V:=.agg #[I7 ((Qar alP Qdp 3).cart),.slice x16.1 (((Qar alP Qdp 3).lines).length) x16.2,.bool ((Qar alP Qdp 3).out),.int .u32 ((Qar alP Qdp 3).tick)]) rfl rfl (Qaa (Qay (V:=I6 (QaK alP Qdp)) rfl rfl (Qaa (QaM (cs:=[I7 0,.slice none 0 0,.bool false,.int .u32 0]) QhO rfl hs fun b17 w18 hs=>(Qaa (QcG (V:=.agg #[I7 ((Qar alP Qdp 3).cart),.slice x16.1 (((Qar alP Qdp 3).lines).length) x16.2,.bool ((Qar alP Qdp 3).out),.int .u32 ((Qar alP Qdp 3).tick)]) (vs:=[I7 ((Qar alP Qdp 3).cart),.slice x16.1 (((Qar alP Qdp 3).lines).length) x16.2,.bool ((Qar alP Qdp 3).out),.int .u32 ((Qar alP Qdp 3).tick)]) (cs':=[I7 ((Qar alP Qdp 3).cart),.slice x16.1 (((Qar alP Qdp 3).lines).length) x16.2,.bool ((Qar alP Qdp 3).out),.int .u32 ((Qar alP Qdp 3).tick)]) QdW.1 hs 7 rfl rfl rfl rfl rfl (QQ8 rfl) (Qau rfl (Qau rfl (Qau rfl (Qau rfl QaY)))) (QaA rfl) fun w19 hs=>(Qaa (Qad (V:=I6 (QaK alP Qdp)) rfl (Qae (Qag (Qab (Qaa (QaP (cs:=((vc vzero)++[(.slice none 0 0:Value),(.slice none 0 0:Value) ])++[(.slice (some ⟨b1,0,none⟩) 1 1:Value) ]++(vc alK)) QcZ hs 1 rfl rfl rfl (Qaa (Qa0 (V:=.agg (vc (vset vzero 0 1)).toArray) (V':=.agg (vc alK).toArray) (QbI (vs:=[(0,.int .u32 1)]) (cs:=vc (vset vzero 0 1)) Qic (rfl) rfl ⟨rfl,rfl⟩) rfl (Qaa (Qbk (α:=(Option Addr × Nat) × (Option Addr × Nat)) (vs:=[.agg (((vc vzero)++[(.slice none 0 0:Value),(.slice none 0 0:Value) ])++[(.slice (some ⟨b1,0,none⟩) 1 1:Value) ]++(vc alK)).toArray,.agg (vc alK).toArray]) (V:=fun x:(Option Addr × Nat) × (Option Addr × Nat)=>.tuple #[.agg (vc (Qah alP alK).known++[(.slice x.1.1 ((Qah alP alK).ents).length x.1.2:Value),(.slice x.2.1 ((Qah alP alK).ticks).length x.2.2:Value)]).toArray,I6 (QaK alP alK)]) (Lo:=fun x=>[row (.slice x.1.1 ((Qah alP alK).ents).length x.1.2) (((Qah alP alK).ents).map cec) 106 7,row (.slice x.2.1 ((Qah alP alK).ticks).length x.2.2) (((Qah alP alK).ticks).map lsc) 102 2]) (F:=fun _ _=>True) QlW rfl rfl ?hc hs fun x21 w20 hs _=>?_))))))))))))))))))))
 case hc=>exact (Qd8 _ alP none 0 none 0 (some ⟨b1,0,none⟩) 1 alK Qh6 hsortE hsortU Qg9 (by decide) (by decide) (by decide) (Rd.nil _ 7) (Rd.nil _ 2) (hs.rd 0 rfl))
 replace hs:Own w no w20 [row (.slice (some ⟨b1,0,none⟩) 1 1) ([Qp0].map oc) 98 23,blk b3 (((vc vzero)++[(.slice none 0 0:Value),(.slice none 0 0:Value) ])++[(.slice (some ⟨b1,0,none⟩) 1 1:Value) ]++(vc alK)) 43,row (.slice x7.1 (((Qar alP alK 3).lines).length) x7.2) (((Qar alP alK 3).lines).map lc) 127 2,blk b8 [I7 ((Qar alP alK 3).cart),.slice x7.1 (((Qar alP alK 3).lines).length) x7.2,.bool ((Qar alP alK 3).out),.int .u32 ((Qar alP alK 3).tick)] 49,row (.slice x12.1 ((QcU alP vzero alK).length) x12.2) ((QcU alP vzero alK).map dfc) 83 5,row (.slice x14.1 ((abR alP alK 9 4).length) x14.2) ((abR alP alK 9 4).map (ic .u16)) 32 1,row (.slice x16.1 (((Qar alP Qdp 3).lines).length) x16.2) (((Qar alP Qdp 3).lines).map lc) 127 2,blk b17 [I7 ((Qar alP Qdp 3).cart),.slice x16.1 (((Qar alP Qdp 3).lines).length) x16.2,.bool ((Qar alP Qdp 3).out),.int .u32 ((Qar alP Qdp 3).tick)] 49,row (.slice x21.1.1 (((Qah alP alK).ents).length) x21.1.2) (((Qah alP alK).ents).map cec) 106 7,row (.slice x21.2.1 (((Qah alP alK).ticks).length) x21.2.2) (((Qah alP alK).ticks).map lsc) 102 2]:=hs
 refine Qaa (Qac (V:=.tuple #[.agg ((vc ((Qah alP alK).known))++[(.slice x21.1.1 (((Qah alP alK).ents).length) x21.1.2:Value),(.slice x21.2.1 (((Qah alP alK).ticks).length) x21.2.2:Value) ]).toArray,I6 (QaK alP alK)]) rfl (Qaa (Qay (V:=.agg ((vc ((Qah alP alK).known))++[(.slice x21.1.1 (((Qah alP alK).ents).length) x21.1.2:Value),(.slice x21.2.1 (((Qah alP alK).ticks).length) x21.2.2:Value) ]).toArray) rfl rfl (Qaa (Qay (V:=I6 (QaK alP alK)) rfl rfl (Qaa (QaM (cs:=(vc vzero)++[(.slice none 0 0:Value),(.slice none 0 0:Value) ]) QfI rfl hs fun b22 w23 hs=>(Qaa (QcG (V:=.agg ((vc ((Qah alP alK).known))++[(.slice x21.1.1 (((Qah alP alK).ents).length) x21.1.2:Value),(.slice x21.2.1 (((Qah alP alK).ticks).length) x21.2.2:Value) ]).toArray) (vs:=(vc ((Qah alP alK).known))++[(.slice x21.1.1 (((Qah alP alK).ents).length) x21.1.2:Value),(.slice x21.2.1 (((Qah alP alK).ticks).length) x21.2.2:Value) ]) (cs':=(vc ((Qah alP alK).known))++[(.slice x21.1.1 (((Qah alP alK).ents).length) x21.1.2:Value),(.slice x21.2.1 (((Qah alP alK).ticks).length) x21.2.2:Value) ]) QbR.1 hs 10 rfl rfl rfl rfl rfl (QQ8 rfl) (Qbn (QbS _) (Qau rfl (Qau rfl QaY))) (QaA rfl) fun w24 hs=>(Qaa (Qad (V:=I6 (QaK alP alK)) rfl (Qae (Qag ?_)))))))))))))
 have hdl:(QcU alP vzero alK).length=1:=by rw [QrU];rfl
 refine Qab (Qaa (Qac (V:=I6 (QaK alP alK)) rfl (Qaa (Qa0 (V:=.bool (decide (QaK alP alK=0))) (V':=.bool true) (Qa1 rfl rfl ⟨rfl,rfl⟩) (congrArg Value.bool (QQ3 Qfm)) (Qaa (Qac (V:=.bool true) rfl (Qcs rfl (Qaf Qc6 rfl (Qcs rfl (QaQ (V:=.slice x7.1 (((Qar alP alK 3).lines).length) x7.2) QgF hs 3 rfl rfl rfl (Qcs rfl (Qa3 (n:=((Qar alP alK 3).lines).length) Qdc (hs.rd 2 rfl) (by simp) rfl (Qcs rfl (Qa0 (V:=.bool (decide (((((Qar alP alK 3).lines).length:Nat):Int)=1))) (V':=.bool true) (Qa1 rfl rfl ⟨rfl,rfl⟩) (congrArg Value.bool (by rw [QqV];rfl)) (Qaa (QcO (V:=.bool true) rfl rfl (Qaa (Qac (V:=.bool true) rfl (Qcs rfl (Qac (V:=I6 (Qdd alP vzero alK)) rfl (Qcs rfl (Qa0 (V:=.bool (decide (Qdd alP vzero alK=0))) (V':=.bool true) (Qa1 rfl rfl ⟨rfl,rfl⟩) (congrArg Value.bool (QQ3 QtM)) (Qaa (QcO (V:=.bool true) rfl rfl (Qaa (Qac (V:=.bool true) rfl (Qcs rfl (Qac (V:=.slice x12.1 ((QcU alP vzero alK).length) x12.2) rfl (Qcs rfl (Qa3 (n:=(QcU alP vzero alK).length) Qsw (hs.rd 4 rfl) (by simp) rfl (Qcs rfl (Qa0 (V:=.bool (decide ((((QcU alP vzero alK).length:Nat):Int)=1))) (V':=.bool true) (Qa1 rfl rfl ⟨rfl,rfl⟩) (congrArg Value.bool (by rw [QrU];rfl)) (Qaa (QcO (V:=.bool true) rfl rfl (Qaa (Qac (V:=.bool true) rfl (Qcs rfl (Qac (V:=.slice x12.1 ((QcU alP vzero alK).length) x12.2) rfl (Qcs rfl (Qax Qsw Qjs.1 (hs.rd 4 rfl) rfl rfl (by decide) (by rw [QQ6];omega) (Qcs rfl (Qbb (j:=0) (vs:=dfc (gd (QcU alP vzero alK) 0)) 0 Qjs (hs.rd 4 rfl) (Qba (by omega)) rfl rfl rfl (by omega) (Qcs rfl (QbI (vs:=[(0,I7 3),(1,I7 4),(4,.int .u32 2)]) (cs:=dfc (⟨3,4,false,0,2⟩:Dif)) QrD (rfl) rfl (Qcs rfl (Qa0 (V:=.bool (decide (gd (QcU alP vzero alK) 0=(⟨3,4,false,0,2⟩:Dif)))) (V':=.bool true) (QrF (xs:=dfc (gd (QcU alP vzero alK) 0)) (ys:=dfc (⟨3,4,false,0,2⟩:Dif)) Tryz.eqGuardType83 (Qvr (gd (QcU alP vzero alK) 0) (⟨3,4,false,0,2⟩:Dif)) rfl rfl rfl ⟨rfl,rfl⟩) (congrArg Value.bool (by rw [QrU];rfl)) (Qaa (QcO (V:=.bool true) rfl rfl (Qaa (Qac (V:=.bool true) rfl (Qcs rfl (Qac (V:=I6 (abI alP alK 9 4)) rfl (Qcs rfl (Qa0 (V:=.bool (decide (abI alP alK 9 4=0))) (V':=.bool true) (Qa1 rfl rfl ⟨rfl,rfl⟩) (congrArg Value.bool (QQ3 QtB)) (Qaa (QcO (V:=.bool true) rfl rfl (Qaa (Qac (V:=.bool true) rfl (Qcs rfl (Qac (V:=.slice x14.1 ((abR alP alK 9 4).length) x14.2) rfl (Qcs rfl (Qa3 (n:=(abR alP alK 9 4).length) QaN (hs.rd 5 rfl) (by simp) rfl (Qcs rfl (Qa0 (V:=.bool (decide ((((abR alP alK 9 4).length:Nat):Int)=1))) (V':=.bool true) (Qa1 rfl rfl ⟨rfl,rfl⟩) (congrArg Value.bool (by rw [QvI];rfl)) (Qaa (QcO (V:=.bool true) rfl rfl (Qaa (Qac (V:=.bool true) rfl (Qcs rfl (Qac (V:=I6 (QaK alP Qdp)) rfl (Qcs rfl (Qa0 (V:=.bool (decide (QaK alP Qdp=11))) (V':=.bool true) (Qa1 rfl rfl ⟨rfl,rfl⟩) (congrArg Value.bool (QQ3 Qq5)) (Qaa (QcO (V:=.bool true) rfl rfl (Qaa (Qac (V:=.bool true) rfl (Qcs rfl (Qac (V:=I6 (QaK alP alK)) rfl (Qcs rfl (Qa0 (V:=.bool (decide (QaK alP alK=0))) (V':=.bool true) (Qa1 rfl rfl ⟨rfl,rfl⟩) (congrArg Value.bool (QQ3 Qfm)) ?_))))))))))))))))))))))))))))))))))))))))))))))))))))))))))))))))))))))))))))))))
 refine Qaa (QcO (V:=.bool true) rfl rfl (Qaa (Qac (V:=.bool true) rfl (Qcs rfl (Qaf Qdb rfl (Qcs rfl (QaQ (V:=.slice x21.1.1 (((Qah alP alK).ents).length) x21.1.2) Qf6 hs 10 rfl rfl rfl (Qcs rfl (Qa3 (n:=((Qah alP alK).ents).length) QbD (hs.rd 8 rfl) (by simp) rfl (Qcs rfl (Qa0 (V:=.bool (decide (((((Qah alP alK).ents).length:Nat):Int)=1))) (V':=.bool true) (Qa1 rfl rfl ⟨rfl,rfl⟩) (congrArg Value.bool (by rw [QqS];rfl)) (Qaa (QcO (V:=.bool true) rfl rfl (Qaa (Qac (V:=.bool true) rfl (Qcs rfl (QaP (cs:=((vc vzero)++[(.slice none 0 0:Value),(.slice none 0 0:Value) ])++[(.slice (some ⟨b1,0,none⟩) 1 1:Value) ]++(vc alK)) QcZ hs 1 rfl rfl rfl (Qcs rfl (Qa0 (V:=.agg (vc (vset (vset vzero 0 0) 1 1)).toArray) (V':=.agg (vc QqR).toArray) (QbI (vs:=[(0,.int .u32 0),(1,.int .u32 1)]) (cs:=vc (vset (vset vzero 0 0) 1 1)) Qic (rfl) rfl ⟨rfl,rfl⟩) rfl (Qcs rfl (Qav (vs:=[.agg (((vc vzero)++[(.slice none 0 0:Value),(.slice none 0 0:Value) ])++[(.slice (some ⟨b1,0,none⟩) 1 1:Value) ]++(vc alK)).toArray,.agg (vc QqR).toArray]) (V:=I6 (QaK alP QqR)) QsI rfl rfl ?hc hs fun w25 hs=>?_)))))))))))))))))))))
 case hc=>exact (QnM _ alP none 0 none 0 (some ⟨b1,0,none⟩) 1 QqR Qq3 Qg9 (by decide) (by decide) (by decide) (Rd.nil _ 7) (Rd.nil _ 2) (hs.rd 0 rfl))
 refine Qcs rfl (Qa0 (V:=.bool (decide (QaK alP QqR=11))) (V':=.bool true) (Qa1 rfl rfl ⟨rfl,rfl⟩) (congrArg Value.bool (QQ3 QqD)) (Qaa (QcO (V:=.bool true) rfl rfl (Qaa (Qad (V:=.bool true) rfl (Qae (Qaw ?_)))))))
 refine ⟨_,Qao (V:=.bool true) Tryz.results10 rfl,(Zr hs ?_)⟩
 rfl
end Tt
end Go.Proofs
namespace Go.Proofs
open Go Go.Vx Go.RowKit
namespace Tt
theorem QmU (w:World) (S:Nat->Prop) (a:Option Addr) (c:Nat) (l:List Lst) (i:Nat) (hi:i<=l.length) (x:Lst) (b:Option Addr) (c2:Nat) (hv:Rd w (.slice b 1 c2) 2 (List.map lsc [x])) (hpl:QdZ w (.slice b 1 c2)) (hnS:¬S (bkS (.slice b 1 c2))) (hvb:bkS (.slice b 1 c2)<w.heap.size) (hN:(l.length+1)*9<=140737488355328) (hR:(row (.slice a l.length c) (l.map lsc) 102 2).holds w S) (hlt:∀ b,S b->b<w.heap.size):Calls Tryz.prog 156 #[.slice a l.length c,.int .i64 (i:Int),.slice b 1 c2] w (fun e w'=>∃ x':Option Addr × Nat,e = .returned (.slice x'.1 (Qds l i x).length x'.2)/\Own w S w' [row (.slice x'.1 (Qds l i x).length x'.2) ((Qds l i x).map lsc) 102 2]/\True):=by
 refine Qaj (n:=95) Tryz.func156 rfl Tryz.ntmps156 rfl ?_
 have hs:=Own.lent hR hlt
 have hn:=(hs.rd 0 rfl).sml
 have hlc:=(hs.rd 0 rfl).roomM
 have hvo:∀ (w1:World) (L1:List Res),Own w S w1 L1->Rd w1 (.slice b 1 c2) 2 (List.map lsc [x]):=fun w1 L1 h=>hv.own h hnS
 refine Qag (Qab (Qaa (Qad (V:=.slice none 0 0) rfl (Qae (Qag (Qab (Qaa (Qac (V:=.slice a l.length c) rfl (Qaa (Qac (V:=I6 (i:Int)) rfl (Qaa (QkL (l:=i) (h:=l.length) (m:=c) (n':=(l.drop i).length) QdR QbM.1 (hs.rd 0 rfl) rfl (.inr ⟨_,_,rfl,rfl⟩) (.inl ⟨rfl,rfl⟩) (.inl ⟨rfl,rfl⟩) (by omega) (by omega) (Nat.le_trans (show l.length<=l.length by omega) (Rd.roomM (hs.rd 0 rfl))) (Nat.le_refl _) (by simp only [List.length_take,List.length_drop]<;>omega) ?_))))))))))))
 refine Qae (Qag (Qab (Qaa (Qac (V:=.slice b 1 c2) rfl (Qaa (Qa0 (V:=I6 (1:Int)) (V':=I6 1) (Qa3 (n:=1) Qet (hvo _ _ hs) (by simp) rfl ⟨rfl,rfl⟩) rfl (Qaa (Qad (V:=I6 1) rfl (Qae (Qag (Qag (Qab (Qaa (Qac (V:=I6 1) rfl (Qaa (Qa0 (V:=.bool (decide ((1:Int)=0))) (V':=.bool false) (Qa1 rfl rfl ⟨rfl,rfl⟩) (congrArg Value.bool (by decide)) (Qae (Qb8 rfl ?_))))))))))))))))))
 refine Qaq (Qag (Qab (Qaa (Qac (V:=.slice a l.length c) rfl (Qaa (Qa3 (n:=l.length) Qet (hs.rd 0 rfl) (by simp) rfl (Qaa (Qad (V:=I6 ((l.length:Nat):Int)) rfl (Qae (Qag (Qag (Qab (Qaa (Qac (V:=I6 (i:Int)) rfl (Qaa (Qac (V:=I6 ((l.length:Nat):Int)) rfl (Qaa (Qa1 rfl rfl (Qae (Qam (t:=decide ((i:Int)=((l.length:Nat):Int))) rfl (fun c1=>?_) (fun c1=>?_)))))))))))))))))))))
 ·
  replace c1:=QQ1 c1
  refine Qag (Qab (Qaa (Qac (V:=.slice a l.length c) rfl (Qaa (Qac (V:=.slice b 1 c2) rfl (Qaa (Qdk (ls':=(l++[x]).map lsc) (n:=(l++[x]).length) Qgu hs 0 rfl rfl rfl (hvo _ _ hs) (QaV Qcg _) (by simp only [QQ6,QQ7,List.length_cons,List.length_nil];omega) (by simp) (by simp) fun a2 c2 w3 hs=>(Qaa (Qad (V:=.slice a2 ((l++[x]).length) c2) rfl (Qae (Qaw ?_)))))))))))
  refine ⟨_,Qao (V:=.slice a2 ((l++[x]).length) c2) Tryz.results156 rfl,?_⟩
  have hX:l++[x]=Qds l i x:=QjW (by omega)
  rw [hX] at hs
  exact ⟨(a2,c2),by rw [← hX],hs.only 0 rfl,trivial⟩
 replace c1:=QQ2 c1
 refine Qaq (Qag (Qag (Qab (Qaa (Qac (V:=I6 ((l.length:Nat):Int)) rfl (Qaa (Qac (V:=I6 1) rfl (Qaa (QaF (a:=((l.length:Nat):Int)) (b:=1) (c:=((l.length+1:Nat):Int)) rfl rfl (Qak (by omega) (by omega)) (Qaa (Qac (V:=.slice a l.length c) rfl (Qaa (Qp8 Qet rfl (Qaa (Qb2 rfl rfl (Qae (Qam (t:=decide ((c:Int)<((l.length+1:Nat):Int))) rfl (fun c4=>?_) (fun c4=>?_))))))))))))))))))
 ·
  replace c4:=QQ1 c4
  refine Qag (Qab (Qaa (Qac (V:=.slice a l.length c) rfl (Qaa (Qac (V:=I6 (i:Int)) rfl (Qaa (QdU (l:=0) (h:=i) (n':=i) QdR QbM.1 (by omega) rfl (.inl ⟨rfl,rfl⟩) (.inr ⟨_,_,rfl,rfl⟩) (by omega) (by omega) (by omega) (Qaa (Qac (V:=I6 ((l.length:Nat):Int)) rfl (Qaa (Qac (V:=I6 1) rfl (Qaa (QaF (a:=((l.length:Nat):Int)) (b:=1) (c:=((l.length+1:Nat):Int)) rfl rfl (Qak (by omega) (by omega)) (Qaa (Qac (V:=I6 (i:Int)) rfl (Qaa (Qa6 (a:=((l.length+1:Nat):Int)) (b:=(i:Int)) (c:=(((l.length+1)-i:Nat):Int)) rfl rfl (Qak (by omega) (by omega)) (Qaa (QpY (zl:=lsc (⟨0,0⟩:Lst)) (ls':=(l.take i++List.replicate ((l.length+1)-i) (⟨0,0⟩:Lst)).map lsc) Qgu QsU (.inl QjB) hs (hs.rd 0 rfl) rfl rfl (by rw [QQ6];omega) (by rw [QQ6];omega) (by omega) (by omega) (QaV Qcg _) (Qcg _) rfl (by omega) (by simp only [List.map_append,List.map_take,List.map_replicate]) (l.take i++List.replicate ((l.length+1)-i) (⟨0,0⟩:Lst)).length (by rw [QQ6]) fun a5 c5 w6 hs=>(Qaa (Qad (V:=.slice a5 ((l.take i++List.replicate ((l.length+1)-i) (⟨0,0⟩:Lst)).length) c5) rfl (Qae (Qag ?_)))))))))))))))))))))))
  have hq9:(l.take i++List.replicate ((l.length+1)-i) (⟨0,0⟩:Lst)).length=l.length+1:=by simp only [QQ7,List.length_take,List.length_replicate];omega
  have hr9:=(hs.rd 1 rfl).roomM
  refine Qab (Qaa (Qac (V:=.slice a5 ((l.take i++List.replicate ((l.length+1)-i) (⟨0,0⟩:Lst)).length) c5) rfl (Qaa (Qac (V:=I6 (i:Int)) rfl (Qaa (QdU (l:=i) (h:=(l.take i++List.replicate ((l.length+1)-i) (⟨0,0⟩:Lst)).length) (n':=((l.take i++List.replicate ((l.length+1)-i) (⟨0,0⟩:Lst)).length)-i) QdR QbM.1 (by omega) rfl (.inr ⟨_,_,rfl,rfl⟩) (.inl ⟨rfl,rfl⟩) (by omega) (by omega) (by omega) (Qaa (Qac (V:=.slice b 1 c2) rfl (Qaa (Qdm (lo:=i) (ms:=[x].map lsc) (ls':=((l.take i++List.replicate ((l.length+1)-i) (⟨0,0⟩:Lst)).take i++[x]++(l.take i++List.replicate ((l.length+1)-i) (⟨0,0⟩:Lst)).drop (i+[x].length)).map lsc) (n':=((l.take i++List.replicate ((l.length+1)-i) (⟨0,0⟩:Lst)).take i++[x]++(l.take i++List.replicate ((l.length+1)-i) (⟨0,0⟩:Lst)).drop (i+[x].length)).length) Qgu hs 1 rfl rfl rfl (by simp only [QQ6,List.length_drop,List.length_take,List.length_cons,List.length_nil,QQ7,List.length_replicate];omega) (Rd.srcs (hvo _ _ hs)) (Qbm (enc:=lsc) (fun _=>rfl) _) (QaV Qcg _) (by simp only [QQ6,List.length_drop,List.length_take,List.length_cons,List.length_nil,QQ7,List.length_replicate];omega) (by simp only [QQ6,List.length_drop,List.length_take,List.length_cons,List.length_nil,QQ7,List.length_replicate];omega) (by simp only [List.map_append,List.map_take,List.map_drop,List.map_cons,List.map_nil,QQ6,List.length_drop,List.length_take,List.length_cons,List.length_nil]) (by rw [QQ6]) fun w7 hs=>(Qae (Qag (QaI HM [some 46,some 47,some 48,some 49,some 50,some 51,some 52,some 53,some 54] [] [0,0,0,6,15,0,0,96,255] [pv (.slice a5 ((l.take i++List.replicate ((l.length+1)-i) (⟨0,0⟩:Lst)).length) c5),pv (I6 (i:Int)),pv (I6 1),pv (I6 ((i+1:Nat):Int)),pv (.slice (sla a5 (i+1) c5 2) (((l.take i++List.replicate ((l.length+1)-i) (⟨0,0⟩:Lst)).length)-(i+1)) (c5-(i+1))),pv (.slice a l.length c),pv (I6 (i:Int)),pv (.slice (sla a i c 2) ((l.drop i).length) (c-i)),pv (I6 (((List.map lsc (l.drop i)).length:Nat):Int))] (fun D J=>[row (.slice a l.length c) (l.map lsc) 102 2,cond (D 8) (row (.slice a5 ((((l.take i++List.replicate ((l.length+1)-i) (⟨0,0⟩:Lst)).take i++[x]++(l.take i++List.replicate ((l.length+1)-i) (⟨0,0⟩:Lst)).drop (i+[x].length)).take (i+1)++l.drop i++((l.take i++List.replicate ((l.length+1)-i) (⟨0,0⟩:Lst)).take i++[x]++(l.take i++List.replicate ((l.length+1)-i) (⟨0,0⟩:Lst)).drop (i+[x].length)).drop (i+1+(l.drop i).length)).length) c5) ((((l.take i++List.replicate ((l.length+1)-i) (⟨0,0⟩:Lst)).take i++[x]++(l.take i++List.replicate ((l.length+1)-i) (⟨0,0⟩:Lst)).drop (i+[x].length)).take (i+1)++l.drop i++((l.take i++List.replicate ((l.length+1)-i) (⟨0,0⟩:Lst)).take i++[x]++(l.take i++List.replicate ((l.length+1)-i) (⟨0,0⟩:Lst)).drop (i+[x].length)).drop (i+1+(l.drop i).length)).map lsc) 102 2) (row (.slice a5 (((l.take i++List.replicate ((l.length+1)-i) (⟨0,0⟩:Lst)).take i++[x]++(l.take i++List.replicate ((l.length+1)-i) (⟨0,0⟩:Lst)).drop (i+[x].length)).length) c5) (((l.take i++List.replicate ((l.length+1)-i) (⟨0,0⟩:Lst)).take i++[x]++(l.take i++List.replicate ((l.length+1)-i) (⟨0,0⟩:Lst)).drop (i+[x].length)).map lsc) 102 2)]) [] (by kernel_rfl) hs ⟨?_,?_,?_,?_,?_,?_,?_,?_,?_,trivial⟩ ?_)))))))))))))
  ·exact oa [] fun D J w hs=>Qac (V:=.slice a5 ((l.take i++List.replicate ((l.length+1)-i) (⟨0,0⟩:Lst)).length) c5) rfl (Zz hs)
  ·exact oa [] fun D J w hs=>Qac (V:=.int .i64 (i:Int)) rfl (Zz hs)
  ·exact oa [] fun D J w hs=>Qac (V:=.int .i64 1) rfl (Zz hs)
  ·exact oa [1,2] fun D J w hs=>QaF (a:=(i:Int)) (b:=1) (c:=((i+1:Nat):Int)) rfl rfl (Qak (by omega) (by omega)) (Zz hs)
  ·exact oa [0,3] fun D J w hs=>QdU (l:=i+1) (h:=(l.take i++List.replicate ((l.length+1)-i) (⟨0,0⟩:Lst)).length) (n':=((l.take i++List.replicate ((l.length+1)-i) (⟨0,0⟩:Lst)).length)-(i+1)) QdR QbM.1 (by omega) rfl (.inr ⟨_,_,rfl,rfl⟩) (.inl ⟨rfl,rfl⟩) (by omega) (by omega) (by omega) (Zz hs)
  ·exact oa [] fun D J w hs=>Qac (V:=.slice a l.length c) rfl (Zz hs)
  ·exact oa [] fun D J w hs=>Qac (V:=.int .i64 (i:Int)) rfl (Zz hs)
  ·exact oa [5,6] fun D J w hs=>QkL (l:=i) (h:=l.length) (m:=c) (n':=(l.drop i).length) QdR QbM.1 (hs.rd 0 rfl) rfl (.inr ⟨_,_,rfl,rfl⟩) (.inl ⟨rfl,rfl⟩) (.inl ⟨rfl,rfl⟩) (by omega) (by omega) (Nat.le_trans (show l.length<=l.length by omega) (Rd.roomM (hs.rd 0 rfl))) (Nat.le_refl _) (by simp only [List.length_take,List.length_drop]<;>omega) (Zz hs)
  ·exact oa [4,7] fun D J w hs=>Qdm (lo:=i+1) (ms:=(l.drop i).map lsc) (ls':=(((l.take i++List.replicate ((l.length+1)-i) (⟨0,0⟩:Lst)).take i++[x]++(l.take i++List.replicate ((l.length+1)-i) (⟨0,0⟩:Lst)).drop (i+[x].length)).take (i+1)++l.drop i++((l.take i++List.replicate ((l.length+1)-i) (⟨0,0⟩:Lst)).take i++[x]++(l.take i++List.replicate ((l.length+1)-i) (⟨0,0⟩:Lst)).drop (i+[x].length)).drop (i+1+(l.drop i).length)).map lsc) (n':=(((l.take i++List.replicate ((l.length+1)-i) (⟨0,0⟩:Lst)).take i++[x]++(l.take i++List.replicate ((l.length+1)-i) (⟨0,0⟩:Lst)).drop (i+[x].length)).take (i+1)++l.drop i++((l.take i++List.replicate ((l.length+1)-i) (⟨0,0⟩:Lst)).take i++[x]++(l.take i++List.replicate ((l.length+1)-i) (⟨0,0⟩:Lst)).drop (i+[x].length)).drop (i+1+(l.drop i).length)).length) Qgu hs 1 rfl rfl rfl (by simp only [QQ6,List.length_drop,List.length_take,List.length_cons,List.length_nil,QQ7,List.length_replicate];omega) (Rd.srcs (Rd.dropM (hs.rd 0 rfl) i hi _ rfl)) (Qbm (enc:=lsc) (fun _=>rfl) _) (QaV Qcg _) (by simp only [QQ6,List.length_drop,List.length_take,List.length_cons,List.length_nil,QQ7,List.length_replicate];omega) (by simp only [QQ6,List.length_drop,List.length_take,List.length_cons,List.length_nil,QQ7,List.length_replicate];omega) (by simp only [List.map_append,List.map_take,List.map_drop,List.map_cons,List.map_nil,QQ6,List.length_drop,List.length_take,List.length_cons,List.length_nil]) (by rw [QQ6]) fun _ hs=>⟨rfl,hs⟩
  rintro J1 w9 J2 hJ hs
  replace hJ:J2=mix (sq 46 9) J1 _:=hJ
  replace hs:Own w S w9 [row (.slice a l.length c) (l.map lsc) 102 2,row (.slice a5 ((((l.take i++List.replicate ((l.length+1)-i) (⟨0,0⟩:Lst)).take i++[x]++(l.take i++List.replicate ((l.length+1)-i) (⟨0,0⟩:Lst)).drop (i+[x].length)).take (i+1)++l.drop i++((l.take i++List.replicate ((l.length+1)-i) (⟨0,0⟩:Lst)).take i++[x]++(l.take i++List.replicate ((l.length+1)-i) (⟨0,0⟩:Lst)).drop (i+[x].length)).drop (i+1+(l.drop i).length)).length) c5) ((((l.take i++List.replicate ((l.length+1)-i) (⟨0,0⟩:Lst)).take i++[x]++(l.take i++List.replicate ((l.length+1)-i) (⟨0,0⟩:Lst)).drop (i+[x].length)).take (i+1)++l.drop i++((l.take i++List.replicate ((l.length+1)-i) (⟨0,0⟩:Lst)).take i++[x]++(l.take i++List.replicate ((l.length+1)-i) (⟨0,0⟩:Lst)).drop (i+[x].length)).drop (i+1+(l.drop i).length)).map lsc) 102 2]:=hs
  subst hJ
  refine Qag (Qab (Qaa (Qac (V:=.slice a5 ((l.take i++List.replicate ((l.length+1)-i) (⟨0,0⟩:Lst)).length) c5) rfl (Qaa (Qad (V:=.slice a5 ((l.take i++List.replicate ((l.length+1)-i) (⟨0,0⟩:Lst)).length) c5) rfl (Qae (Qaw ?_)))))))
  refine ⟨_,Qao (V:=.slice a5 ((l.take i++List.replicate ((l.length+1)-i) (⟨0,0⟩:Lst)).length) c5) Tryz.results156 rfl,?_⟩
  have hX:((l.take i++List.replicate ((l.length+1)-i) (⟨0,0⟩:Lst)).take i++[x]++(l.take i++List.replicate ((l.length+1)-i) (⟨0,0⟩:Lst)).drop (i+[x].length)).take (i+1)++l.drop i++((l.take i++List.replicate ((l.length+1)-i) (⟨0,0⟩:Lst)).take i++[x]++(l.take i++List.replicate ((l.length+1)-i) (⟨0,0⟩:Lst)).drop (i+[x].length)).drop (i+1+(l.drop i).length)=Qds l i x:=Qj0 hi
  rw [hX] at hs
  exact ⟨(a5,c5),by rw [hq9,QfM hi],hs.only 1 rfl,trivial⟩
 replace c4:=QQ2 c4
 refine Qaq (Qag (Qab (Qaa (Qac (V:=.slice a l.length c) rfl (Qaa (Qac (V:=I6 ((l.length:Nat):Int)) rfl (Qaa (Qac (V:=I6 1) rfl (Qaa (QaF (a:=((l.length:Nat):Int)) (b:=1) (c:=((l.length+1:Nat):Int)) rfl rfl (Qak (by omega) (by omega)) (Qaa (Qa0 (V:=.slice (sla a 0 c 2) (l.length+1) (c-0)) (V':=.slice a (l.length+1) c) (QdU (l:=0) (h:=l.length+1) (n':=l.length+1) QdR QbM.1 (by omega) rfl (.inl ⟨rfl,rfl⟩) (.inr ⟨_,_,rfl,rfl⟩) (by omega) (by omega) (by omega) ⟨rfl,rfl⟩) (by rw [QeY];rfl) (Qaa (Qad (V:=.slice a (l.length+1) c) rfl (Qae (Qag (Qag (Qab (Qaa (Qac (V:=.slice b 1 c2) rfl (Qaa (Qac (V:=.slice a (l.length+1) c) rfl (Qaa (Qac (V:=I6 (i:Int)) rfl (Qaa (Qac (V:=I6 1) rfl (Qaa (QaF (a:=(i:Int)) (b:=1) (c:=((i+1:Nat):Int)) rfl rfl (Qak (by omega) (by omega)) (Qaa (QdU (l:=i+1) (h:=l.length+1) (n':=(l.length+1)-(i+1)) QdR QbM.1 (by omega) rfl (.inr ⟨_,_,rfl,rfl⟩) (.inl ⟨rfl,rfl⟩) (by omega) (by omega) (by omega) (Qaa (Ql2 (f:=168) (tR:=4) (lo:=i+1) Tryz.func168 (by kernel_rfl) (by kernel_rfl) (by kernel_rfl) (by kernel_rfl) QdR QbM.1 rfl hs 0 rfl (by rw [QQ6];omega) (by decide) rfl (hpl.own hs hnS) hnS hvb (by omega) rfl (Qaa (Qbw rfl (Qae (QcJ rfl ?_))))))))))))))))))))))))))))))))))))
 refine Qag (QaI HM [some 69,some 70,some 71,some 72,some 73,some 74,some 75,some 76,some 77] [] [0,0,0,6,15,0,0,96,255] [pv (.slice a (l.length+1) c),pv (I6 (i:Int)),pv (I6 1),pv (I6 ((i+1:Nat):Int)),pv (.slice (sla a (i+1) c 2) ((l.length+1)-(i+1)) (c-(i+1))),pv (.slice a (l.length+1) c),pv (I6 (i:Int)),pv (.slice (sla a i c 2) ((l.length+1)-i) (c-i)),pv (I6 (((List.map lsc (l.drop i)).length:Nat):Int))] (fun D J=>[cond (D 8) (row (.slice a ((l.take (i+1)++l.drop i++l.drop (i+1+(l.drop i).length)).length) c) ((l.take (i+1)++l.drop i++l.drop (i+1+(l.drop i).length)).map lsc) 102 2) (row (.slice a l.length c) (l.map lsc) 102 2)]) [] (by kernel_rfl) hs ⟨?_,?_,?_,?_,?_,?_,?_,?_,?_,trivial⟩ ?_)
 ·exact oa [] fun D J w hs=>Qac (V:=.slice a (l.length+1) c) rfl (Zz hs)
 ·exact oa [] fun D J w hs=>Qac (V:=.int .i64 (i:Int)) rfl (Zz hs)
 ·exact oa [] fun D J w hs=>Qac (V:=.int .i64 1) rfl (Zz hs)
 ·exact oa [1,2] fun D J w hs=>QaF (a:=(i:Int)) (b:=1) (c:=((i+1:Nat):Int)) rfl rfl (Qak (by omega) (by omega)) (Zz hs)
 ·exact oa [0,3] fun D J w hs=>QdU (l:=i+1) (h:=l.length+1) (n':=(l.length+1)-(i+1)) QdR QbM.1 (by omega) rfl (.inr ⟨_,_,rfl,rfl⟩) (.inl ⟨rfl,rfl⟩) (by omega) (by omega) (by omega) (Zz hs)
 ·exact oa [] fun D J w hs=>Qac (V:=.slice a (l.length+1) c) rfl (Zz hs)
 ·exact oa [] fun D J w hs=>Qac (V:=.int .i64 (i:Int)) rfl (Zz hs)
 ·exact oa [5,6] fun D J w hs=>QdU (l:=i) (h:=l.length+1) (n':=(l.length+1)-i) QdR QbM.1 (by omega) rfl (.inr ⟨_,_,rfl,rfl⟩) (.inl ⟨rfl,rfl⟩) (by omega) (by omega) (by omega) (Zz hs)
 ·exact oa [4,7] fun D J w hs=>Qdm (lo:=i+1) (ms:=(l.drop i).map lsc) (ls':=(l.take (i+1)++l.drop i++l.drop (i+1+(l.drop i).length)).map lsc) (n':=(l.take (i+1)++l.drop i++l.drop (i+1+(l.drop i).length)).length) Qgu hs 0 rfl rfl rfl (by simp only [QQ6,List.length_drop,List.length_take,List.length_cons,List.length_nil,QQ7,List.length_replicate];omega) (Rd.srcs (Rd.dropM (hs.rd 0 rfl) i hi _ rfl)) (Qbm (enc:=lsc) (fun _=>rfl) _) (QaV Qcg _) (by simp only [QQ6,List.length_drop,List.length_take,List.length_cons,List.length_nil,QQ7,List.length_replicate];omega) (by simp only [QQ6,List.length_drop,List.length_take,List.length_cons,List.length_nil,QQ7,List.length_replicate];omega) (by simp only [List.map_append,List.map_take,List.map_drop,List.map_cons,List.map_nil,QQ6,List.length_drop,List.length_take,List.length_cons,List.length_nil]) (by rw [QQ6]) fun _ hs=>⟨rfl,hs⟩
 rintro J1 w11 J2 hJ hs
 replace hJ:J2=mix (sq 69 9) J1 _:=hJ
 replace hs:Own w S w11 [row (.slice a ((l.take (i+1)++l.drop i++l.drop (i+1+(l.drop i).length)).length) c) ((l.take (i+1)++l.drop i++l.drop (i+1+(l.drop i).length)).map lsc) 102 2]:=hs
 subst hJ
 refine Qag (Qab (Qaa (Qac (V:=.slice a (l.length+1) c) rfl (Qaa (Qac (V:=I6 (i:Int)) rfl (Qaa (QdU (l:=i) (h:=l.length+1) (n':=(l.length+1)-i) QdR QbM.1 (by omega) rfl (.inr ⟨_,_,rfl,rfl⟩) (.inl ⟨rfl,rfl⟩) (by omega) (by omega) (by omega) (Qaa (Qac (V:=.slice b 1 c2) rfl (Qaa (Qdm (lo:=i) (ms:=[x].map lsc) (ls':=((l.take (i+1)++l.drop i++l.drop (i+1+(l.drop i).length)).take i++[x]++(l.take (i+1)++l.drop i++l.drop (i+1+(l.drop i).length)).drop (i+[x].length)).map lsc) (n':=((l.take (i+1)++l.drop i++l.drop (i+1+(l.drop i).length)).take i++[x]++(l.take (i+1)++l.drop i++l.drop (i+1+(l.drop i).length)).drop (i+[x].length)).length) Qgu hs 0 rfl rfl rfl (by simp only [QQ6,List.length_drop,List.length_take,List.length_cons,List.length_nil,QQ7,List.length_replicate];omega) (Rd.srcs (hvo _ _ hs)) (Qbm (enc:=lsc) (fun _=>rfl) _) (QaV Qcg _) (by simp only [QQ6,List.length_drop,List.length_take,List.length_cons,List.length_nil,QQ7,List.length_replicate];omega) (by simp only [QQ6,List.length_drop,List.length_take,List.length_cons,List.length_nil,QQ7,List.length_replicate];omega) (by simp only [List.map_append,List.map_take,List.map_drop,List.map_cons,List.map_nil,QQ6,List.length_drop,List.length_take,List.length_cons,List.length_nil]) (by rw [QQ6]) fun w12 hs=>(Qae (Qag (Qab (Qaa (Qac (V:=.slice a (l.length+1) c) rfl (Qaa (Qad (V:=.slice a (l.length+1) c) rfl (Qae (Qaw ?_))))))))))))))))))))
 refine ⟨_,Qao (V:=.slice a (l.length+1) c) Tryz.results156 rfl,?_⟩
 have hX:(l.take (i+1)++l.drop i++l.drop (i+1+(l.drop i).length)).take i++[x]++(l.take (i+1)++l.drop i++l.drop (i+1+(l.drop i).length)).drop (i+[x].length)=Qds l i x:=Qjv (by omega)
 rw [hX] at hs
 exact ⟨(a,c),by rw [QfM hi],hs.only 0 rfl,trivial⟩
end Tt
end Go.Proofs
namespace Go.Proofs
open Go Go.Vx Go.RowKit
namespace Tt
theorem Qrt (w:World) (S:Nat->Prop) (b:Nat) (kn:Vec) (v1:Value) (a2:Option Addr) (c2:Nat) (ts:List Lst) (l:Lst) (hlt:ts.length<=10000) (hT:QdC ts) (hR:(star [blk b (vc kn++[(v1:Value),(.slice a2 ts.length c2:Value)]) 38,row (.slice a2 ts.length c2) (ts.map lsc) 102 2]).holds w S) (hlS:∀ x,S x->x<w.heap.size):Calls Tryz.prog 122 #[.pointer (some ⟨b,0,none⟩),.agg (lsc l).toArray] w (fun e w'=>∃ x:Option Addr × Nat,e = .returned (.tuple #[])/\Own w S w' [star [blk b (vc kn++[(v1:Value),(.slice x.1 (Qdt l.cart l.tick ts).length x.2:Value)]) 38,row (.slice x.1 (Qdt l.cart l.tick ts).length x.2) ((Qdt l.cart l.tick ts).map lsc) 102 2]]/\True):=by
 refine Qaj (n:=46) Tryz.func122 rfl Tryz.ntmps122 rfl ?_
 have hs:=(Own.lent hR hlS).split 0 rfl
 have hpl:=Qr1 ts l.cart
 refine Qag (Qab (Qaa (Qa5 (V:=.agg (lsc l).toArray) (cs:=lsc l) rfl rfl hs fun b1 w2 hs=>(Qae (Qag (QaI HM [some 7,some 8,some 9,some 10,some 11,some 12,some 6,some 13,some 14,some 4,some 5] [] [0,1,3,0,8,31,63,127,127,255,1023] [pv (Pq b 0),pv (Pq b 0),pv (.agg ((vc kn)++[(v1:Value),(.slice a2 ts.length c2:Value) ]).toArray),pv (Pq b1 (0+0)),pv (I7 l.cart),pv (.tuple #[I6 ((QbJ ts l.cart:Nat):Int),.bool ((QaJ ts l.cart).isSome)]),pv (.tuple #[I6 ((QbJ ts l.cart:Nat):Int),.bool ((QaJ ts l.cart).isSome)]),pv (I6 ((QbJ ts l.cart:Nat):Int)),pv (.bool ((QaJ ts l.cart).isSome)),pv (I6 ((QbJ ts l.cart:Nat):Int)),pv (.bool ((QaJ ts l.cart).isSome))] (fun _ _=>_) [10,9] (by kernel_rfl) hs ⟨?_,?_,?_,?_,?_,?_,?_,?_,?_,?_,?_,trivial⟩ ?_))))))
 ·exact oa [] fun D J w hs=>Qac (V:=.pointer (some ⟨b,0,none⟩)) rfl (Zz hs)
 ·exact oa [0] fun D J w hs=>QcM rfl (Zz hs)
 ·exact oa [1] fun D J w hs=>QaP (cs:=(vc kn)++[(v1:Value),(.slice a2 ts.length c2:Value) ]) QbR hs 0 rfl rfl rfl (Zz hs)
 ·exact oa [] fun D J w hs=>Qaf Qel rfl (Zz hs)
 ·exact oa [3] fun D J w hs=>QaQ (V:=.int .u16 l.cart) Qat hs 2 rfl rfl rfl (Zz hs)
 ·exact oa [2,4] fun D J w hs=>Qav (vs:=[.agg ((vc kn)++[(v1:Value),(.slice a2 ts.length c2:Value) ]).toArray,.int .u16 l.cart]) (V:=.tuple #[.int .i64 ((QbJ ts l.cart:Nat):Int),.bool ((QaJ ts l.cart).isSome)]) Qsh rfl rfl (QhM _ kn v1 a2 c2 ts l.cart (by omega) hT (hs.rd 1 rfl)) hs fun _ hs=>Zz hs
 ·exact oa [5] fun D J w hs=>Qac (V:=.tuple #[.int .i64 ((QbJ ts l.cart:Nat):Int),.bool ((QaJ ts l.cart).isSome)]) rfl (Zz hs)
 ·exact oa [6] fun D J w hs=>Qay (V:=.int .i64 ((QbJ ts l.cart:Nat):Int)) rfl rfl (Zz hs)
 ·exact oa [6] fun D J w hs=>Qay (V:=.bool ((QaJ ts l.cart).isSome)) rfl rfl (Zz hs)
 ·exact oa [7] fun D J w hs=>Qad (V:=.int .i64 ((QbJ ts l.cart:Nat):Int)) rfl (Zz hs)
 ·exact oa [8] fun D J w hs=>Qad (V:=.bool ((QaJ ts l.cart).isSome)) rfl (Zz hs)
 rintro J1 w4 J2 hJ hs
 replace hJ:J2=upd (upd (mix (sq 7 6++[6,13,14,4,5]) J1 _) 4 (I6 ((QbJ ts l.cart:Nat):Int))) 5 (.bool ((QaJ ts l.cart).isSome)):=hJ
 subst hJ
 refine Qag (Qag (Qab (Qaa (Qac (V:=.bool ((QaJ ts l.cart).isSome)) rfl (Qaa (Qbw rfl (Qae (Qam (t:=!((QaJ ts l.cart).isSome)) rfl (fun c5=>?_) (fun c5=>?_)))))))))
 ·
  replace c5:=Qby c5
  refine Qag ?_
  replace hs:=hs.more emp trivial
  refine QaI HM [some 17,some 18,some 19,some 20,some 21,some 22,some 23,some 24,some 25,some 26,some 27,none] [[],[],[],[],[],[],[],[24],[25]] [0,0,2,6,14,0,0,64,254,511,1023,2047] [pv (Pq b 0),pv (Pq b 0),pv (Pq b 0),pv (Pq b (0+17)),pv (.slice a2 ts.length c2),pv (I6 ((QbJ ts l.cart:Nat):Int)),pv (.agg (lsc l).toArray),(true,fun J=>.slice (some ⟨(bOf (J 24)),0,none⟩) 1 1),(true,fun J=>.slice (aOf (J 25)) ((Qds ts (QbJ ts l.cart) l).length) (cOf (J 25))),pv (Pq b 0),pv (Pq b (0+17)),pn] (fun D J=>[cond (D 11) (blk b ((vc kn)++[(v1:Value),(.slice (aOf (J 25)) ((Qds ts (QbJ ts l.cart) l).length) (cOf (J 25)):Value) ]) 38) (blk b ((vc kn)++[(v1:Value),(.slice a2 ts.length c2:Value) ]) 38),cond (D 8) (row (.slice (aOf (J 25)) ((Qds ts (QbJ ts l.cart) l).length) (cOf (J 25))) ((Qds ts (QbJ ts l.cart) l).map lsc) 102 2) (row (.slice a2 ts.length c2) (ts.map lsc) 102 2),blk b1 (lsc l) 102,cond (D 7) (row (.slice (some ⟨(bOf (J 24)),0,none⟩) 1 1) ([l].map lsc) 102 2) (emp)]) [] (by kernel_rfl) hs ⟨?_,?_,?_,?_,?_,?_,?_,?_,?_,?_,?_,?_,trivial⟩ ?_
  ·exact oa [] fun D J w hs=>Qac (V:=.pointer (some ⟨b,0,none⟩)) rfl (Zz hs)
  ·exact oa [] fun D J w hs=>Qac (V:=.pointer (some ⟨b,0,none⟩)) rfl (Zz hs)
  ·exact oa [1] fun D J w hs=>QcM rfl (Zz hs)
  ·exact oa [2] fun D J w hs=>Qaf QcI rfl (Zz hs)
  ·exact ob [3] [11] rfl rfl fun D J w hs=>QaQ (V:=.slice a2 ts.length c2) Qfr hs 0 rfl rfl rfl (Zz hs)
  ·exact oa [] fun D J w hs=>Qac (V:=.int .i64 ((QbJ ts l.cart:Nat):Int)) rfl (Zz hs)
  ·exact oa [] fun D J w hs=>QaP (cs:=lsc l) QbM hs 2 rfl rfl rfl (Zz hs)
  ·exact oa [6] fun D J w hs=>QhP (vals:=[.agg (lsc l).toArray]) (ls:=List.map lsc ([l]:List Lst)) Qgu rfl rfl rfl (Qbm (enc:=lsc) (fun _=>rfl) _) (QaV Qcg _) (QQ8 rfl) hs fun _ _ hs=>⟨rfl,hs.put 3 (QQ8 rfl)⟩
  ·exact ob [4,5,7] [11] rfl rfl fun D J w hs=>Qmh (α:=Option Addr × Nat) (vs:=[.slice a2 ts.length c2,I6 ((QbJ ts l.cart:Nat):Int),.slice (some ⟨(bOf (J 24)),0,none⟩) 1 1]) (V:=fun x=>.slice x.1 (Qds ts (QbJ ts l.cart) l).length x.2) (R:=row (.slice a2 ts.length c2) (ts.map lsc) 102 2) (R':=fun x=>row (.slice x.1 (Qds ts (QbJ ts l.cart) l).length x.2) ((Qds ts (QbJ ts l.cart) l).map lsc) 102 2) (Lo:=fun _=>[]) (F:=fun _ _=>True) Qua rfl rfl hs 1 3 (by decide) rfl rfl (QQ8 rfl) (fun S hS hlt hnS hpl9=>QmU _ S a2 c2 ts (QbJ ts l.cart) hpl l (some ⟨(bOf (J 24)),0,none⟩) 1 (hs.rd 3 rfl) hpl9 hnS hpl9.lt (by omega) hS hlt) fun _ _ hs _=>⟨rfl,hs⟩
  ·exact oa [0] fun D J w hs=>QcM rfl (Zz hs)
  ·exact oa [9] fun D J w hs=>Qaf QcI rfl (Zz hs)
  ·exact oa [8,10] fun D J w hs=>Qc0 (V:=.slice (aOf (J 25)) ((Qds ts (QbJ ts l.cart) l).length) (cOf (J 25))) (cs':=(vc kn)++[(v1:Value),(.slice (aOf (J 25)) ((Qds ts (QbJ ts l.cart) l).length) (cOf (J 25)):Value) ]) Qfr hs 0 rfl rfl rfl rfl (QQ8 rfl) rfl fun _ hs=>⟨trivial,hs⟩
  rintro J1 w9 J2 hJ hs
  replace hJ:J2=mix (sq 17 11) J1 _:=hJ
  replace hs:Own w S w9 [blk b ((vc kn)++[(v1:Value),(.slice (aOf (J1 25)) ((Qds ts (QbJ ts l.cart) l).length) (cOf (J1 25)):Value) ]) 38,row (.slice (aOf (J1 25)) ((Qds ts (QbJ ts l.cart) l).length) (cOf (J1 25))) ((Qds ts (QbJ ts l.cart) l).map lsc) 102 2,blk b1 (lsc l) 102,row (.slice (some ⟨(bOf (J1 24)),0,none⟩) 1 1) ([l].map lsc) 102 2]:=hs
  generalize (bOf (J1 24))=b10 at hs
  generalize (aOf (J1 25))=a11 at hs
  generalize (cOf (J1 25))=c12 at hs
  subst hJ
  refine Qaw ?_
  refine ⟨_,Qbg Tryz.results122,?_⟩
  have hX:Qds ts (QbJ ts l.cart) l=Qdt l.cart l.tick ts:=(Qov hT c5).symm
  have ho:=(hs.join 0 1 (by decide) rfl rfl).only 0 rfl
  rw [hX] at ho
  exact ⟨(a11,c12),rfl,ho,trivial⟩
 replace c5:=Qbq c5
 refine Qaq ?_
 have hfa:=Qho hT c5
 have hfb:=hfa.1
 refine QaI HM [some 28,some 29,some 30,some 31,some 32,some 33,some 34,some 35,some 36,some 37,some 38,some 39,some 40,some 41,some 42,some 43,some 44,some 45,none] [] [0,1,3,7,0,0,32,96,224,0,992,2016,4064,0,8192,32736,65535,131071,262143] [pv (Pq b 0),pv (Pq b 0),pv (Pq b (0+17)),pv (.slice a2 ts.length c2),pv (I6 ((QbJ ts l.cart:Nat):Int)),pv (Pq b 0),pv (Pq b 0),pv (Pq b (0+17)),pv (.slice a2 ts.length c2),pv (I6 ((QbJ ts l.cart:Nat):Int)),pv (.pointer (some ⟨bkS (.slice a2 ts.length c2),ofS (.slice a2 ts.length c2)+((QbJ ts l.cart:Nat):Int).toNat*2,none⟩)),pv (.pointer (some ⟨bkS (.slice a2 ts.length c2),ofS (.slice a2 ts.length c2)+((QbJ ts l.cart:Nat):Int).toNat*2+1,none⟩)),pv (.int .u32 ((gd ts (QbJ ts l.cart)).tick)),pv (Pq b1 (0+1)),pv (.int .u32 l.tick),pv (.int .u32 (max ((gd ts (QbJ ts l.cart)).tick) l.tick)),pv (.pointer (some ⟨bkS (.slice a2 ts.length c2),ofS (.slice a2 ts.length c2)+((QbJ ts l.cart:Nat):Int).toNat*2,none⟩)),pv (.pointer (some ⟨bkS (.slice a2 ts.length c2),ofS (.slice a2 ts.length c2)+((QbJ ts l.cart:Nat):Int).toNat*2+1,none⟩)),pn] (fun D J=>[blk b ((vc kn)++[(v1:Value),(.slice a2 ts.length c2:Value) ]) 38,cond (D 18) (row (.slice a2 ts.length c2) ((ts.set (QbJ ts l.cart) (⟨(gd ts (QbJ ts l.cart)).cart,max ((gd ts (QbJ ts l.cart)).tick) l.tick⟩:Lst)).map lsc) 102 2) (row (.slice a2 ts.length c2) (ts.map lsc) 102 2),blk b1 (lsc l) 102]) [] (by kernel_rfl) hs ⟨?_,?_,?_,?_,?_,?_,?_,?_,?_,?_,?_,?_,?_,?_,?_,?_,?_,?_,?_,trivial⟩ ?_
 ·exact oa [] fun D J w hs=>Qac (V:=.pointer (some ⟨b,0,none⟩)) rfl (Zz hs)
 ·exact oa [0] fun D J w hs=>QcM rfl (Zz hs)
 ·exact oa [1] fun D J w hs=>Qaf QcI rfl (Zz hs)
 ·exact oa [2] fun D J w hs=>QaQ (V:=.slice a2 ts.length c2) Qfr hs 0 rfl rfl rfl (Zz hs)
 ·exact oa [] fun D J w hs=>Qac (V:=.int .i64 ((QbJ ts l.cart:Nat):Int)) rfl (Zz hs)
 ·exact oa [] fun D J w hs=>Qac (V:=.pointer (some ⟨b,0,none⟩)) rfl (Zz hs)
 ·exact oa [5] fun D J w hs=>QcM rfl (Zz hs)
 ·exact oa [6] fun D J w hs=>Qaf QcI rfl (Zz hs)
 ·exact oa [7] fun D J w hs=>QaQ (V:=.slice a2 ts.length c2) Qfr hs 0 rfl rfl rfl (Zz hs)
 ·exact oa [] fun D J w hs=>Qac (V:=.int .i64 ((QbJ ts l.cart:Nat):Int)) rfl (Zz hs)
 ·exact ob [8,9] [18] rfl rfl fun D J w hs=>Qax Qet QbM.1 (hs.rd 1 rfl) rfl rfl (by omega) (by rw [QQ6];omega) (Zz hs)
 ·exact oa [10] fun D J w hs=>Qaf Qep rfl (Zz hs)
 ·exact ob [11] [18] rfl rfl fun D J w hs=>QaW (j:=1) (V:=.int .u32 ((gd ts (QbJ ts l.cart)).tick)) (QbJ ts l.cart) QaU (hs.rd 1 rfl) (Qba (by omega)) rfl rfl (by omega) (Zz hs)
 ·exact oa [] fun D J w hs=>Qaf Qep rfl (Zz hs)
 ·exact oa [13] fun D J w hs=>QaQ (V:=.int .u32 l.tick) QaU hs 2 rfl rfl rfl (Zz hs)
 ·exact oa [12,14] fun D J w hs=>Qo7 rfl rfl (Zz hs)
 ·exact ob [3,4] [18] rfl rfl fun D J w hs=>Qax Qet QbM.1 (hs.rd 1 rfl) rfl rfl (by omega) (by rw [QQ6];omega) (Zz hs)
 ·exact oa [16] fun D J w hs=>Qaf Qep rfl (Zz hs)
 ·exact oa [15,17] fun D J w hs=>Qto (z:=(⟨(gd ts (QbJ ts l.cart)).cart,max ((gd ts (QbJ ts l.cart)).tick) l.tick⟩:Lst)) (vs:=[.int .u32 (max ((gd ts (QbJ ts l.cart)).tick) l.tick)]) (QbJ ts l.cart) 1 QaU.1 hs 1 rfl rfl (by omega) (by first|omega|(simp only [List.length_set];omega)) rfl rfl rfl rfl (QQ8 rfl) (Qcg _) (Qau rfl QaY) fun _ hs=>⟨trivial,hs⟩
 rintro J1 w14 J2 hJ hs
 replace hJ:J2=mix (sq 28 18) J1 _:=hJ
 replace hs:Own w S w14 [blk b ((vc kn)++[(v1:Value),(.slice a2 ts.length c2:Value) ]) 38,row (.slice a2 ts.length c2) ((ts.set (QbJ ts l.cart) (⟨(gd ts (QbJ ts l.cart)).cart,max ((gd ts (QbJ ts l.cart)).tick) l.tick⟩:Lst)).map lsc) 102 2,blk b1 (lsc l) 102]:=hs
 subst hJ
 refine ⟨_,Qbg Tryz.results122,?_⟩
 have hX:ts.set (QbJ ts l.cart) (⟨(gd ts (QbJ ts l.cart)).cart,max ((gd ts (QbJ ts l.cart)).tick) l.tick⟩:Lst)=Qdt l.cart l.tick ts:=by rw [QpI hT c5];congr 1;rw [(Qho hT c5).2.1]
 have ho:=(hs.join 0 1 (by decide) rfl rfl).only 0 rfl
 have hl:ts.length=(Qdt l.cart l.tick ts).length:=by rw [← hX,List.length_set]
 rw [hX,hl] at ho
 exact ⟨(a2,c2),rfl,ho,trivial⟩
end Tt
end Go.Proofs
namespace Go.Proofs
open Go Go.Vx Go.RowKit
namespace Tt
theorem Qsb (w:World) (s:Sta) (a1:Option Addr) (c1:Nat) (a2:Option Addr) (c2:Nat) (hok:QdE s) (hle:s.ents.length<=1000) (hlt:s.ticks.length<=1000) (hr1:Rd w (.slice a1 s.ents.length c1) 7 (s.ents.map cec)) (hr2:Rd w (.slice a2 s.ticks.length c2) 2 (s.ticks.map lsc)):Calls Tryz.prog 116 #[.agg ((vc s.known)++[(.slice a1 s.ents.length c1:Value),(.slice a2 s.ticks.length c2:Value) ]).toArray] w (fun e w'=>∃ x:(Option Addr × Nat) × (Option Addr × Nat),e = .returned (.agg (vc (s).known++[(.slice x.1.1 (s).ents.length x.1.2:Value),(.slice x.2.1 (s).ticks.length x.2.2:Value)]).toArray)/\Own w no w' [row (.slice x.1.1 (s).ents.length x.1.2) ((s).ents.map cec) 106 7,row (.slice x.2.1 (s).ticks.length x.2.2) ((s).ticks.map lsc) 102 2]/\True):=by
 refine Qaj (n:=12) Tryz.func116 rfl Tryz.ntmps116 rfl ?_
 have hs:=Own.start w
 refine Qag (Qab (Qaa (Qa5 (V:=.agg ((vc s.known)++[(.slice a1 s.ents.length c1:Value),(.slice a2 s.ticks.length c2:Value) ]).toArray) (cs:=(vc s.known)++[(.slice a1 s.ents.length c1:Value),(.slice a2 s.ticks.length c2:Value) ]) rfl rfl hs fun b1 w2 hs=>(Qaa (QaM (cs:=(vc vzero)++[(.slice none 0 0:Value),(.slice none 0 0:Value) ]) QfI rfl hs fun b3 w4 hs=>(Qae (Qag ?_)))))))
 replace hs:=hs.more emp trivial
 replace hs:=hs.more emp trivial
 refine QaI HM [some 3,some 4,some 5,some 6,some 7,some 8,some 9,some 10,some 11,none] [[],[],[],[],[7],[],[],[10],[7,10]] [0,1,0,4,12,0,32,124,255,511] [pv (Pq b1 (0+0)),pv (.agg (vc s.known).toArray),pv (Pq b1 (0+16)),pv (.slice a1 s.ents.length c1),(true,fun J=>.slice (aOf (J 7)) ((s.ents).length) (cOf (J 7))),pv (Pq b1 (0+17)),pv (.slice a2 s.ticks.length c2),(true,fun J=>.slice (aOf (J 10)) ((s.ticks).length) (cOf (J 10))),(true,fun J=>.agg ((vc s.known)++[(.slice (aOf (J 7)) ((s.ents).length) (cOf (J 7)):Value),(.slice (aOf (J 10)) ((s.ticks).length) (cOf (J 10)):Value) ]).toArray),pn] (fun D J=>[blk b1 ((vc s.known)++[(.slice a1 s.ents.length c1:Value),(.slice a2 s.ticks.length c2:Value) ]) 38,cond (D 9) (blk b3 ((vc s.known)++[(.slice (aOf (J 7)) ((s.ents).length) (cOf (J 7)):Value),(.slice (aOf (J 10)) ((s.ticks).length) (cOf (J 10)):Value) ]) 38) (blk b3 ((vc vzero)++[(.slice none 0 0:Value),(.slice none 0 0:Value) ]) 38),cond (D 4) (row (.slice (aOf (J 7)) ((s.ents).length) (cOf (J 7))) (s.ents.map cec) 106 7) (emp),cond (D 7) (row (.slice (aOf (J 10)) ((s.ticks).length) (cOf (J 10))) (s.ticks.map lsc) 102 2) (emp)]) [] (by kernel_rfl) hs ⟨?_,?_,?_,?_,?_,?_,?_,?_,?_,?_,trivial⟩ ?_
 ·exact oa [] fun D J w hs=>Qaf Qd3 rfl (Zz hs)
 ·exact oa [0] fun D J w hs=>QbP (vs:=vc s.known) Qbs hs 0 rfl rfl rfl rfl (Zz hs)
 ·exact oa [] fun D J w hs=>Qaf Qdb rfl (Zz hs)
 ·exact oa [2] fun D J w hs=>QaQ (V:=.slice a1 s.ents.length c1) Qf6 hs 0 rfl rfl rfl (Zz hs)
 ·exact ob [3] [9] rfl rfl fun D J w hs=>Qbk (vs:=[.slice a1 s.ents.length c1]) (V:=fun x:Option Addr × Nat=>.slice x.1 (s.ents).length x.2) Que rfl rfl (QiG _ a1 c1 s.ents (by omega) (Rd.own' hr1 hs)) hs fun _ _ hs _=>⟨rfl,hs.put 2 (QQ8 rfl)⟩
 ·exact oa [] fun D J w hs=>Qaf QcI rfl (Zz hs)
 ·exact oa [5] fun D J w hs=>QaQ (V:=.slice a2 s.ticks.length c2) Qfr hs 0 rfl rfl rfl (Zz hs)
 ·exact ob [6] [9] rfl rfl fun D J w hs=>Qbk (vs:=[.slice a2 s.ticks.length c2]) (V:=fun x:Option Addr × Nat=>.slice x.1 (s.ticks).length x.2) QsH rfl rfl (Qmp _ a2 c2 s.ticks (by omega) (Rd.own' hr2 hs)) hs fun _ _ hs _=>⟨rfl,hs.put 3 (QQ8 rfl)⟩
 ·exact oa [1,4,7] fun D J w hs=>QcA (vs:=[(0,.agg (vc s.known).toArray),(1,.slice (aOf (J 7)) ((s.ents).length) (cOf (J 7))),(2,.slice (aOf (J 10)) ((s.ticks).length) (cOf (J 10)))]) (cs:=(vc s.known)++[(.slice (aOf (J 7)) ((s.ents).length) (cOf (J 7)):Value),(.slice (aOf (J 10)) ((s.ticks).length) (cOf (J 10)):Value) ]) [vc vzero,[(.slice none 0 0:Value)],[(.slice none 0 0:Value)]] [vc s.known,[(.slice (aOf (J 7)) ((s.ents).length) (cOf (J 7)):Value)],[(.slice (aOf (J 10)) ((s.ticks).length) (cOf (J 10)):Value)]] Qlx rfl (rfl) rfl rfl (Zz hs)
 ·exact oa [8] fun D J w hs=>QcG (V:=.agg ((vc s.known)++[(.slice (aOf (J 7)) ((s.ents).length) (cOf (J 7)):Value),(.slice (aOf (J 10)) ((s.ticks).length) (cOf (J 10)):Value) ]).toArray) (vs:=(vc s.known)++[(.slice (aOf (J 7)) ((s.ents).length) (cOf (J 7)):Value),(.slice (aOf (J 10)) ((s.ticks).length) (cOf (J 10)):Value) ]) (cs':=(vc s.known)++[(.slice (aOf (J 7)) ((s.ents).length) (cOf (J 7)):Value),(.slice (aOf (J 10)) ((s.ticks).length) (cOf (J 10)):Value) ]) QbR.1 hs 1 rfl rfl rfl rfl rfl (QQ8 rfl) (Qbn (QbS _) (Qau rfl (Qau rfl QaY))) (QaA rfl) fun _ hs=>⟨trivial,hs⟩
 rintro J1 w8 J2 hJ hs
 replace hJ:J2=mix (sq 3 9) J1 _:=hJ
 replace hs:Own w no w8 [blk b1 ((vc s.known)++[(.slice a1 s.ents.length c1:Value),(.slice a2 s.ticks.length c2:Value) ]) 38,blk b3 ((vc s.known)++[(.slice (aOf (J1 7)) ((s.ents).length) (cOf (J1 7)):Value),(.slice (aOf (J1 10)) ((s.ticks).length) (cOf (J1 10)):Value) ]) 38,row (.slice (aOf (J1 7)) ((s.ents).length) (cOf (J1 7))) (s.ents.map cec) 106 7,row (.slice (aOf (J1 10)) ((s.ticks).length) (cOf (J1 10))) (s.ticks.map lsc) 102 2]:=hs
 generalize (aOf (J1 7))=a9 at hs
 generalize (cOf (J1 7))=c10 at hs
 generalize (aOf (J1 10))=a11 at hs
 generalize (cOf (J1 10))=c12 at hs
 subst hJ
 refine Qaw ?_
 refine ⟨_,QdN (cs:=(vc s.known)++[(.slice a9 ((s.ents).length) c10:Value),(.slice a11 ((s.ticks).length) c12:Value) ]) Tryz.results116 QbR hs 1 rfl rfl rfl,?_⟩
 exact ⟨((a9,c10),(a11,c12)),rfl,hs.two 2 3 (by decide) rfl rfl,trivial⟩
theorem QrE (w:World) (x:Cen):Calls Tryz.prog 118 #[.agg (cec x).toArray] w (fun e w'=>e = .returned (.agg (oc (QaH x)).toArray)/\Own w no w' []):=by
 refine Qaj (n:=14) Tryz.func118 rfl Tryz.ntmps118 rfl ?_
 have hs:=Own.start w
 refine Qag (Qab (Qaa (Qa5 (V:=.agg (cec x).toArray) (cs:=cec x) rfl rfl hs fun b1 w2 hs=>(Qaa (QaM (cs:=oc (⟨(⟨0,0⟩:Dot),0,0,0,0,0,vzero⟩:Opn)) Qh8 rfl hs fun b3 w4 hs=>(Qae (Qag (Qab (Qaa (Qaf QbL rfl (Qaa (QbP (vs:=dc x.dot) QcH hs 0 rfl rfl rfl rfl (Qaa (Qaf Qef rfl (Qaa (QaQ (V:=.int .u8 x.kind) QdF hs 0 rfl rfl rfl (Qaa (Qaf Qdj rfl (Qaa (QaQ (V:=I7 x.cart) Qat hs 0 rfl rfl rfl (Qaa (Qaf Qdg rfl (Qaa (QaQ (V:=I7 x.item) Qat hs 0 rfl rfl rfl (Qaa (Qaf Qei rfl (Qaa (QaQ (V:=I7 x.qty) Qat hs 0 rfl rfl rfl (Qaa (QcA (vs:=[(0,.agg (dc x.dot).toArray),(1,.int .u8 x.kind),(2,I7 x.cart),(3,I7 x.item),(4,I7 x.qty)]) (cs:=oc (⟨x.dot,x.kind,x.cart,x.item,x.qty,0,vzero⟩:Opn)) [dc (⟨0,0⟩:Dot),[(.int .u8 0:Value)],[(I7 0:Value)],[(I7 0:Value)],[(I7 0:Value)],[(.int .u32 0:Value)],vc vzero] [dc x.dot,[(.int .u8 x.kind:Value)],[(I7 x.cart:Value)],[(I7 x.item:Value)],[(I7 x.qty:Value)],[(.int .u32 0:Value)],vc vzero] QqX rfl (rfl) rfl rfl (Qaa (QcG (V:=.agg (oc (⟨x.dot,x.kind,x.cart,x.item,x.qty,0,vzero⟩:Opn)).toArray) (vs:=oc (⟨x.dot,x.kind,x.cart,x.item,x.qty,0,vzero⟩:Opn)) (cs':=oc (⟨x.dot,x.kind,x.cart,x.item,x.qty,0,vzero⟩:Opn)) QbC.1 hs 1 rfl rfl rfl rfl rfl (QQ8 rfl) (Qc5 _) (QaA rfl) fun w5 hs=>(Qae (Qaw ?_))))))))))))))))))))))))))))))))))
 refine ⟨_,QdN (cs:=oc (⟨x.dot,x.kind,x.cart,x.item,x.qty,0,vzero⟩:Opn)) Tryz.results118 QbC hs 1 rfl rfl rfl,(Zr hs ?_)⟩
 rfl
theorem Qm4 (w:World) (x:Cen) (o:Opn) (bx:Nat) (hx:Qc9 x.dot) (hc:Qca w bx (oc o)):Calls Tryz.prog 117 #[.agg (cec x).toArray,.pointer (some ⟨bx,0,none⟩)] w (fun e w'=>e = .returned (.bool (QaE o (QaH x)))/\Own w no w' []):=by
 refine Qaj (n:=8) Tryz.func117 rfl Tryz.ntmps117 rfl ?_
 have hs:=Own.start w
 refine Qag (Qab (Qaa (Qa5 (V:=.agg (cec x).toArray) (cs:=cec x) rfl rfl hs fun b1 w2 hs=>(Qaa (Qad (V:=.bool false) rfl (Qae (Qag (QaI HM [some 4,some 5,some 6,some 7,some 3] [] [0,0,2,7,15] [pv (.agg (oc o).toArray),pv (.agg (cec x).toArray),pv (.agg (oc (QaH x)).toArray),pv (.bool (QaE o (QaH x))),pv (.bool (QaE o (QaH x)))] (fun _ _=>_) [4] (by kernel_rfl) hs ⟨?_,?_,?_,?_,?_,trivial⟩ ?_))))))))
 ·exact oa [] fun D J w hs=>QnA (vs:=oc o) QbC (hc.own' hs) rfl rfl rfl (Zz hs)
 ·exact oa [] fun D J w hs=>QaP (cs:=cec x) QaD hs 0 rfl rfl rfl (Zz hs)
 ·exact oa [1] fun D J w hs=>Qav (vs:=[.agg (cec x).toArray]) (V:=.agg (oc (QaH x)).toArray) Quf rfl rfl (QrE _ x) hs fun _ hs=>Zz hs
 ·exact oa [0,2] fun D J w hs=>Qav (vs:=[.agg (oc o).toArray,.agg (oc (QaH x)).toArray]) (V:=.bool (QaE o (QaH x))) Qs5 rfl rfl (Qj3 _ o (QaH x) hx) hs fun _ hs=>Zz hs
 ·exact oa [3] fun D J w hs=>Qad (V:=.bool (QaE o (QaH x))) rfl (Zz hs)
 rintro J1 w5 J2 hJ hs
 replace hJ:J2=upd (mix [4,5,6,7,3] J1 _) 3 (.bool (QaE o (QaH x))):=hJ
 subst hJ
 refine Qaw ?_
 refine ⟨_,Qao (V:=.bool (QaE o (QaH x))) Tryz.results117 rfl,(Zr hs ?_)⟩
 rfl
end Tt
end Go.Proofs
namespace Go.Proofs
open Go Go.Vx Go.RowKit
namespace Tt
theorem Qmq (w:World) (S:Nat->Prop) (a:Option Addr) (c:Nat) (l:List Cen) (i:Nat) (hi:i<=l.length) (x:Cen) (b:Option Addr) (c2:Nat) (hv:Rd w (.slice b 1 c2) 7 (List.map cec [x])) (hpl:QdZ w (.slice b 1 c2)) (hnS:¬S (bkS (.slice b 1 c2))) (hvb:bkS (.slice b 1 c2)<w.heap.size) (hN:(l.length+1)*25<=140737488355328) (hR:(row (.slice a l.length c) (l.map cec) 106 7).holds w S) (hlt:∀ b,S b->b<w.heap.size):Calls Tryz.prog 121 #[.slice a l.length c,.int .i64 (i:Int),.slice b 1 c2] w (fun e w'=>∃ x':Option Addr × Nat,e = .returned (.slice x'.1 (Qds l i x).length x'.2)/\Own w S w' [row (.slice x'.1 (Qds l i x).length x'.2) ((Qds l i x).map cec) 106 7]/\True):=by
 refine Qaj (n:=95) Tryz.func121 rfl Tryz.ntmps121 rfl ?_
 have hs:=Own.lent hR hlt
 have hn:=(hs.rd 0 rfl).sml
 have hlc:=(hs.rd 0 rfl).roomM
 have hvo:∀ (w1:World) (L1:List Res),Own w S w1 L1->Rd w1 (.slice b 1 c2) 7 (List.map cec [x]):=fun w1 L1 h=>hv.own h hnS
 refine Qag (Qab (Qaa (Qad (V:=.slice none 0 0) rfl (Qae (Qag (Qab (Qaa (Qac (V:=.slice a l.length c) rfl (Qaa (Qac (V:=I6 (i:Int)) rfl (Qaa (QkL (l:=i) (h:=l.length) (m:=c) (n':=(l.drop i).length) QcX QaD.1 (hs.rd 0 rfl) rfl (.inr ⟨_,_,rfl,rfl⟩) (.inl ⟨rfl,rfl⟩) (.inl ⟨rfl,rfl⟩) (by omega) (by omega) (Nat.le_trans (show l.length<=l.length by omega) (Rd.roomM (hs.rd 0 rfl))) (Nat.le_refl _) (by simp only [List.length_take,List.length_drop]<;>omega) ?_))))))))))))
 refine Qae (Qag (Qab (Qaa (Qac (V:=.slice b 1 c2) rfl (Qaa (Qa0 (V:=I6 (1:Int)) (V':=I6 1) (Qa3 (n:=1) QbD (hvo _ _ hs) (by simp) rfl ⟨rfl,rfl⟩) rfl (Qaa (Qad (V:=I6 1) rfl (Qae (Qag (Qag (Qab (Qaa (Qac (V:=I6 1) rfl (Qaa (Qa0 (V:=.bool (decide ((1:Int)=0))) (V':=.bool false) (Qa1 rfl rfl ⟨rfl,rfl⟩) (congrArg Value.bool (by decide)) (Qae (Qb8 rfl ?_))))))))))))))))))
 refine Qaq (Qag (Qab (Qaa (Qac (V:=.slice a l.length c) rfl (Qaa (Qa3 (n:=l.length) QbD (hs.rd 0 rfl) (by simp) rfl (Qaa (Qad (V:=I6 ((l.length:Nat):Int)) rfl (Qae (Qag (Qag (Qab (Qaa (Qac (V:=I6 (i:Int)) rfl (Qaa (Qac (V:=I6 ((l.length:Nat):Int)) rfl (Qaa (Qa1 rfl rfl (Qae (Qam (t:=decide ((i:Int)=((l.length:Nat):Int))) rfl (fun c1=>?_) (fun c1=>?_)))))))))))))))))))))
 ·
  replace c1:=QQ1 c1
  refine Qag (Qab (Qaa (Qac (V:=.slice a l.length c) rfl (Qaa (Qac (V:=.slice b 1 c2) rfl (Qaa (Qdk (ls':=(l++[x]).map cec) (n:=(l++[x]).length) QeK hs 0 rfl rfl rfl (hvo _ _ hs) (QaV Qbl _) (by simp only [QQ6,QQ7,List.length_cons,List.length_nil];omega) (by simp) (by simp) fun a2 c2 w3 hs=>(Qaa (Qad (V:=.slice a2 ((l++[x]).length) c2) rfl (Qae (Qaw ?_)))))))))))
  refine ⟨_,Qao (V:=.slice a2 ((l++[x]).length) c2) Tryz.results121 rfl,?_⟩
  have hX:l++[x]=Qds l i x:=QjW (by omega)
  rw [hX] at hs
  exact ⟨(a2,c2),by rw [← hX],hs.only 0 rfl,trivial⟩
 replace c1:=QQ2 c1
 refine Qaq (Qag (Qag (Qab (Qaa (Qac (V:=I6 ((l.length:Nat):Int)) rfl (Qaa (Qac (V:=I6 1) rfl (Qaa (QaF (a:=((l.length:Nat):Int)) (b:=1) (c:=((l.length+1:Nat):Int)) rfl rfl (Qak (by omega) (by omega)) (Qaa (Qac (V:=.slice a l.length c) rfl (Qaa (Qp8 QbD rfl (Qaa (Qb2 rfl rfl (Qae (Qam (t:=decide ((c:Int)<((l.length+1:Nat):Int))) rfl (fun c4=>?_) (fun c4=>?_))))))))))))))))))
 ·
  replace c4:=QQ1 c4
  refine Qag (Qab (Qaa (Qac (V:=.slice a l.length c) rfl (Qaa (Qac (V:=I6 (i:Int)) rfl (Qaa (QdU (l:=0) (h:=i) (n':=i) QcX QaD.1 (by omega) rfl (.inl ⟨rfl,rfl⟩) (.inr ⟨_,_,rfl,rfl⟩) (by omega) (by omega) (by omega) (Qaa (Qac (V:=I6 ((l.length:Nat):Int)) rfl (Qaa (Qac (V:=I6 1) rfl (Qaa (QaF (a:=((l.length:Nat):Int)) (b:=1) (c:=((l.length+1:Nat):Int)) rfl rfl (Qak (by omega) (by omega)) (Qaa (Qac (V:=I6 (i:Int)) rfl (Qaa (Qa6 (a:=((l.length+1:Nat):Int)) (b:=(i:Int)) (c:=(((l.length+1)-i:Nat):Int)) rfl rfl (Qak (by omega) (by omega)) (Qaa (QpY (zl:=cec (⟨0,0,0,0,(⟨0,0⟩:Dot),0⟩:Cen)) (ls':=(l.take i++List.replicate ((l.length+1)-i) (⟨0,0,0,0,(⟨0,0⟩:Dot),0⟩:Cen)).map cec) QeK QsU (.inl QfD) hs (hs.rd 0 rfl) rfl rfl (by rw [QQ6];omega) (by rw [QQ6];omega) (by omega) (by omega) (QaV Qbl _) (Qbl _) rfl (by omega) (by simp only [List.map_append,List.map_take,List.map_replicate]) (l.take i++List.replicate ((l.length+1)-i) (⟨0,0,0,0,(⟨0,0⟩:Dot),0⟩:Cen)).length (by rw [QQ6]) fun a5 c5 w6 hs=>(Qaa (Qad (V:=.slice a5 ((l.take i++List.replicate ((l.length+1)-i) (⟨0,0,0,0,(⟨0,0⟩:Dot),0⟩:Cen)).length) c5) rfl (Qae (Qag ?_)))))))))))))))))))))))
  have hq9:(l.take i++List.replicate ((l.length+1)-i) (⟨0,0,0,0,(⟨0,0⟩:Dot),0⟩:Cen)).length=l.length+1:=by simp only [QQ7,List.length_take,List.length_replicate];omega
  have hr9:=(hs.rd 1 rfl).roomM
  refine Qab (Qaa (Qac (V:=.slice a5 ((l.take i++List.replicate ((l.length+1)-i) (⟨0,0,0,0,(⟨0,0⟩:Dot),0⟩:Cen)).length) c5) rfl (Qaa (Qac (V:=I6 (i:Int)) rfl (Qaa (QdU (l:=i) (h:=(l.take i++List.replicate ((l.length+1)-i) (⟨0,0,0,0,(⟨0,0⟩:Dot),0⟩:Cen)).length) (n':=((l.take i++List.replicate ((l.length+1)-i) (⟨0,0,0,0,(⟨0,0⟩:Dot),0⟩:Cen)).length)-i) QcX QaD.1 (by omega) rfl (.inr ⟨_,_,rfl,rfl⟩) (.inl ⟨rfl,rfl⟩) (by omega) (by omega) (by omega) (Qaa (Qac (V:=.slice b 1 c2) rfl (Qaa (Qdm (lo:=i) (ms:=[x].map cec) (ls':=((l.take i++List.replicate ((l.length+1)-i) (⟨0,0,0,0,(⟨0,0⟩:Dot),0⟩:Cen)).take i++[x]++(l.take i++List.replicate ((l.length+1)-i) (⟨0,0,0,0,(⟨0,0⟩:Dot),0⟩:Cen)).drop (i+[x].length)).map cec) (n':=((l.take i++List.replicate ((l.length+1)-i) (⟨0,0,0,0,(⟨0,0⟩:Dot),0⟩:Cen)).take i++[x]++(l.take i++List.replicate ((l.length+1)-i) (⟨0,0,0,0,(⟨0,0⟩:Dot),0⟩:Cen)).drop (i+[x].length)).length) QeK hs 1 rfl rfl rfl (by simp only [QQ6,List.length_drop,List.length_take,List.length_cons,List.length_nil,QQ7,List.length_replicate];omega) (Rd.srcs (hvo _ _ hs)) (Qbm (enc:=cec) (fun _=>rfl) _) (QaV Qbl _) (by simp only [QQ6,List.length_drop,List.length_take,List.length_cons,List.length_nil,QQ7,List.length_replicate];omega) (by simp only [QQ6,List.length_drop,List.length_take,List.length_cons,List.length_nil,QQ7,List.length_replicate];omega) (by simp only [List.map_append,List.map_take,List.map_drop,List.map_cons,List.map_nil,QQ6,List.length_drop,List.length_take,List.length_cons,List.length_nil]) (by rw [QQ6]) fun w7 hs=>(Qae (Qag (QaI HM [some 46,some 47,some 48,some 49,some 50,some 51,some 52,some 53,some 54] [] [0,0,0,6,15,0,0,96,255] [pv (.slice a5 ((l.take i++List.replicate ((l.length+1)-i) (⟨0,0,0,0,(⟨0,0⟩:Dot),0⟩:Cen)).length) c5),pv (I6 (i:Int)),pv (I6 1),pv (I6 ((i+1:Nat):Int)),pv (.slice (sla a5 (i+1) c5 7) (((l.take i++List.replicate ((l.length+1)-i) (⟨0,0,0,0,(⟨0,0⟩:Dot),0⟩:Cen)).length)-(i+1)) (c5-(i+1))),pv (.slice a l.length c),pv (I6 (i:Int)),pv (.slice (sla a i c 7) ((l.drop i).length) (c-i)),pv (I6 (((List.map cec (l.drop i)).length:Nat):Int))] (fun D J=>[row (.slice a l.length c) (l.map cec) 106 7,cond (D 8) (row (.slice a5 ((((l.take i++List.replicate ((l.length+1)-i) (⟨0,0,0,0,(⟨0,0⟩:Dot),0⟩:Cen)).take i++[x]++(l.take i++List.replicate ((l.length+1)-i) (⟨0,0,0,0,(⟨0,0⟩:Dot),0⟩:Cen)).drop (i+[x].length)).take (i+1)++l.drop i++((l.take i++List.replicate ((l.length+1)-i) (⟨0,0,0,0,(⟨0,0⟩:Dot),0⟩:Cen)).take i++[x]++(l.take i++List.replicate ((l.length+1)-i) (⟨0,0,0,0,(⟨0,0⟩:Dot),0⟩:Cen)).drop (i+[x].length)).drop (i+1+(l.drop i).length)).length) c5) ((((l.take i++List.replicate ((l.length+1)-i) (⟨0,0,0,0,(⟨0,0⟩:Dot),0⟩:Cen)).take i++[x]++(l.take i++List.replicate ((l.length+1)-i) (⟨0,0,0,0,(⟨0,0⟩:Dot),0⟩:Cen)).drop (i+[x].length)).take (i+1)++l.drop i++((l.take i++List.replicate ((l.length+1)-i) (⟨0,0,0,0,(⟨0,0⟩:Dot),0⟩:Cen)).take i++[x]++(l.take i++List.replicate ((l.length+1)-i) (⟨0,0,0,0,(⟨0,0⟩:Dot),0⟩:Cen)).drop (i+[x].length)).drop (i+1+(l.drop i).length)).map cec) 106 7) (row (.slice a5 (((l.take i++List.replicate ((l.length+1)-i) (⟨0,0,0,0,(⟨0,0⟩:Dot),0⟩:Cen)).take i++[x]++(l.take i++List.replicate ((l.length+1)-i) (⟨0,0,0,0,(⟨0,0⟩:Dot),0⟩:Cen)).drop (i+[x].length)).length) c5) (((l.take i++List.replicate ((l.length+1)-i) (⟨0,0,0,0,(⟨0,0⟩:Dot),0⟩:Cen)).take i++[x]++(l.take i++List.replicate ((l.length+1)-i) (⟨0,0,0,0,(⟨0,0⟩:Dot),0⟩:Cen)).drop (i+[x].length)).map cec) 106 7)]) [] (by kernel_rfl) hs ⟨?_,?_,?_,?_,?_,?_,?_,?_,?_,trivial⟩ ?_)))))))))))))
  ·exact oa [] fun D J w hs=>Qac (V:=.slice a5 ((l.take i++List.replicate ((l.length+1)-i) (⟨0,0,0,0,(⟨0,0⟩:Dot),0⟩:Cen)).length) c5) rfl (Zz hs)
  ·exact oa [] fun D J w hs=>Qac (V:=.int .i64 (i:Int)) rfl (Zz hs)
  ·exact oa [] fun D J w hs=>Qac (V:=.int .i64 1) rfl (Zz hs)
  ·exact oa [1,2] fun D J w hs=>QaF (a:=(i:Int)) (b:=1) (c:=((i+1:Nat):Int)) rfl rfl (Qak (by omega) (by omega)) (Zz hs)
  ·exact oa [0,3] fun D J w hs=>QdU (l:=i+1) (h:=(l.take i++List.replicate ((l.length+1)-i) (⟨0,0,0,0,(⟨0,0⟩:Dot),0⟩:Cen)).length) (n':=((l.take i++List.replicate ((l.length+1)-i) (⟨0,0,0,0,(⟨0,0⟩:Dot),0⟩:Cen)).length)-(i+1)) QcX QaD.1 (by omega) rfl (.inr ⟨_,_,rfl,rfl⟩) (.inl ⟨rfl,rfl⟩) (by omega) (by omega) (by omega) (Zz hs)
  ·exact oa [] fun D J w hs=>Qac (V:=.slice a l.length c) rfl (Zz hs)
  ·exact oa [] fun D J w hs=>Qac (V:=.int .i64 (i:Int)) rfl (Zz hs)
  ·exact oa [5,6] fun D J w hs=>QkL (l:=i) (h:=l.length) (m:=c) (n':=(l.drop i).length) QcX QaD.1 (hs.rd 0 rfl) rfl (.inr ⟨_,_,rfl,rfl⟩) (.inl ⟨rfl,rfl⟩) (.inl ⟨rfl,rfl⟩) (by omega) (by omega) (Nat.le_trans (show l.length<=l.length by omega) (Rd.roomM (hs.rd 0 rfl))) (Nat.le_refl _) (by simp only [List.length_take,List.length_drop]<;>omega) (Zz hs)
  ·exact oa [4,7] fun D J w hs=>Qdm (lo:=i+1) (ms:=(l.drop i).map cec) (ls':=(((l.take i++List.replicate ((l.length+1)-i) (⟨0,0,0,0,(⟨0,0⟩:Dot),0⟩:Cen)).take i++[x]++(l.take i++List.replicate ((l.length+1)-i) (⟨0,0,0,0,(⟨0,0⟩:Dot),0⟩:Cen)).drop (i+[x].length)).take (i+1)++l.drop i++((l.take i++List.replicate ((l.length+1)-i) (⟨0,0,0,0,(⟨0,0⟩:Dot),0⟩:Cen)).take i++[x]++(l.take i++List.replicate ((l.length+1)-i) (⟨0,0,0,0,(⟨0,0⟩:Dot),0⟩:Cen)).drop (i+[x].length)).drop (i+1+(l.drop i).length)).map cec) (n':=(((l.take i++List.replicate ((l.length+1)-i) (⟨0,0,0,0,(⟨0,0⟩:Dot),0⟩:Cen)).take i++[x]++(l.take i++List.replicate ((l.length+1)-i) (⟨0,0,0,0,(⟨0,0⟩:Dot),0⟩:Cen)).drop (i+[x].length)).take (i+1)++l.drop i++((l.take i++List.replicate ((l.length+1)-i) (⟨0,0,0,0,(⟨0,0⟩:Dot),0⟩:Cen)).take i++[x]++(l.take i++List.replicate ((l.length+1)-i) (⟨0,0,0,0,(⟨0,0⟩:Dot),0⟩:Cen)).drop (i+[x].length)).drop (i+1+(l.drop i).length)).length) QeK hs 1 rfl rfl rfl (by simp only [QQ6,List.length_drop,List.length_take,List.length_cons,List.length_nil,QQ7,List.length_replicate];omega) (Rd.srcs (Rd.dropM (hs.rd 0 rfl) i hi _ rfl)) (Qbm (enc:=cec) (fun _=>rfl) _) (QaV Qbl _) (by simp only [QQ6,List.length_drop,List.length_take,List.length_cons,List.length_nil,QQ7,List.length_replicate];omega) (by simp only [QQ6,List.length_drop,List.length_take,List.length_cons,List.length_nil,QQ7,List.length_replicate];omega) (by simp only [List.map_append,List.map_take,List.map_drop,List.map_cons,List.map_nil,QQ6,List.length_drop,List.length_take,List.length_cons,List.length_nil]) (by rw [QQ6]) fun _ hs=>⟨rfl,hs⟩
  rintro J1 w9 J2 hJ hs
  replace hJ:J2=mix (sq 46 9) J1 _:=hJ
  replace hs:Own w S w9 [row (.slice a l.length c) (l.map cec) 106 7,row (.slice a5 ((((l.take i++List.replicate ((l.length+1)-i) (⟨0,0,0,0,(⟨0,0⟩:Dot),0⟩:Cen)).take i++[x]++(l.take i++List.replicate ((l.length+1)-i) (⟨0,0,0,0,(⟨0,0⟩:Dot),0⟩:Cen)).drop (i+[x].length)).take (i+1)++l.drop i++((l.take i++List.replicate ((l.length+1)-i) (⟨0,0,0,0,(⟨0,0⟩:Dot),0⟩:Cen)).take i++[x]++(l.take i++List.replicate ((l.length+1)-i) (⟨0,0,0,0,(⟨0,0⟩:Dot),0⟩:Cen)).drop (i+[x].length)).drop (i+1+(l.drop i).length)).length) c5) ((((l.take i++List.replicate ((l.length+1)-i) (⟨0,0,0,0,(⟨0,0⟩:Dot),0⟩:Cen)).take i++[x]++(l.take i++List.replicate ((l.length+1)-i) (⟨0,0,0,0,(⟨0,0⟩:Dot),0⟩:Cen)).drop (i+[x].length)).take (i+1)++l.drop i++((l.take i++List.replicate ((l.length+1)-i) (⟨0,0,0,0,(⟨0,0⟩:Dot),0⟩:Cen)).take i++[x]++(l.take i++List.replicate ((l.length+1)-i) (⟨0,0,0,0,(⟨0,0⟩:Dot),0⟩:Cen)).drop (i+[x].length)).drop (i+1+(l.drop i).length)).map cec) 106 7]:=hs
  subst hJ
  refine Qag (Qab (Qaa (Qac (V:=.slice a5 ((l.take i++List.replicate ((l.length+1)-i) (⟨0,0,0,0,(⟨0,0⟩:Dot),0⟩:Cen)).length) c5) rfl (Qaa (Qad (V:=.slice a5 ((l.take i++List.replicate ((l.length+1)-i) (⟨0,0,0,0,(⟨0,0⟩:Dot),0⟩:Cen)).length) c5) rfl (Qae (Qaw ?_)))))))
  refine ⟨_,Qao (V:=.slice a5 ((l.take i++List.replicate ((l.length+1)-i) (⟨0,0,0,0,(⟨0,0⟩:Dot),0⟩:Cen)).length) c5) Tryz.results121 rfl,?_⟩
  have hX:((l.take i++List.replicate ((l.length+1)-i) (⟨0,0,0,0,(⟨0,0⟩:Dot),0⟩:Cen)).take i++[x]++(l.take i++List.replicate ((l.length+1)-i) (⟨0,0,0,0,(⟨0,0⟩:Dot),0⟩:Cen)).drop (i+[x].length)).take (i+1)++l.drop i++((l.take i++List.replicate ((l.length+1)-i) (⟨0,0,0,0,(⟨0,0⟩:Dot),0⟩:Cen)).take i++[x]++(l.take i++List.replicate ((l.length+1)-i) (⟨0,0,0,0,(⟨0,0⟩:Dot),0⟩:Cen)).drop (i+[x].length)).drop (i+1+(l.drop i).length)=Qds l i x:=Qj0 hi
  rw [hX] at hs
  exact ⟨(a5,c5),by rw [hq9,QfM hi],hs.only 1 rfl,trivial⟩
 replace c4:=QQ2 c4
 refine Qaq (Qag (Qab (Qaa (Qac (V:=.slice a l.length c) rfl (Qaa (Qac (V:=I6 ((l.length:Nat):Int)) rfl (Qaa (Qac (V:=I6 1) rfl (Qaa (QaF (a:=((l.length:Nat):Int)) (b:=1) (c:=((l.length+1:Nat):Int)) rfl rfl (Qak (by omega) (by omega)) (Qaa (Qa0 (V:=.slice (sla a 0 c 7) (l.length+1) (c-0)) (V':=.slice a (l.length+1) c) (QdU (l:=0) (h:=l.length+1) (n':=l.length+1) QcX QaD.1 (by omega) rfl (.inl ⟨rfl,rfl⟩) (.inr ⟨_,_,rfl,rfl⟩) (by omega) (by omega) (by omega) ⟨rfl,rfl⟩) (by rw [QeY];rfl) (Qaa (Qad (V:=.slice a (l.length+1) c) rfl (Qae (Qag (Qag (Qab (Qaa (Qac (V:=.slice b 1 c2) rfl (Qaa (Qac (V:=.slice a (l.length+1) c) rfl (Qaa (Qac (V:=I6 (i:Int)) rfl (Qaa (Qac (V:=I6 1) rfl (Qaa (QaF (a:=(i:Int)) (b:=1) (c:=((i+1:Nat):Int)) rfl rfl (Qak (by omega) (by omega)) (Qaa (QdU (l:=i+1) (h:=l.length+1) (n':=(l.length+1)-(i+1)) QcX QaD.1 (by omega) rfl (.inr ⟨_,_,rfl,rfl⟩) (.inl ⟨rfl,rfl⟩) (by omega) (by omega) (by omega) (Qaa (Ql2 (f:=154) (tR:=4) (lo:=i+1) Tryz.func154 (by kernel_rfl) (by kernel_rfl) (by kernel_rfl) (by kernel_rfl) QcX QaD.1 rfl hs 0 rfl (by rw [QQ6];omega) (by decide) rfl (hpl.own hs hnS) hnS hvb (by omega) rfl (Qaa (Qbw rfl (Qae (QcJ rfl ?_))))))))))))))))))))))))))))))))))))
 refine Qag (QaI HM [some 69,some 70,some 71,some 72,some 73,some 74,some 75,some 76,some 77] [] [0,0,0,6,15,0,0,96,255] [pv (.slice a (l.length+1) c),pv (I6 (i:Int)),pv (I6 1),pv (I6 ((i+1:Nat):Int)),pv (.slice (sla a (i+1) c 7) ((l.length+1)-(i+1)) (c-(i+1))),pv (.slice a (l.length+1) c),pv (I6 (i:Int)),pv (.slice (sla a i c 7) ((l.length+1)-i) (c-i)),pv (I6 (((List.map cec (l.drop i)).length:Nat):Int))] (fun D J=>[cond (D 8) (row (.slice a ((l.take (i+1)++l.drop i++l.drop (i+1+(l.drop i).length)).length) c) ((l.take (i+1)++l.drop i++l.drop (i+1+(l.drop i).length)).map cec) 106 7) (row (.slice a l.length c) (l.map cec) 106 7)]) [] (by kernel_rfl) hs ⟨?_,?_,?_,?_,?_,?_,?_,?_,?_,trivial⟩ ?_)
 ·exact oa [] fun D J w hs=>Qac (V:=.slice a (l.length+1) c) rfl (Zz hs)
 ·exact oa [] fun D J w hs=>Qac (V:=.int .i64 (i:Int)) rfl (Zz hs)
 ·exact oa [] fun D J w hs=>Qac (V:=.int .i64 1) rfl (Zz hs)
 ·exact oa [1,2] fun D J w hs=>QaF (a:=(i:Int)) (b:=1) (c:=((i+1:Nat):Int)) rfl rfl (Qak (by omega) (by omega)) (Zz hs)
 ·exact oa [0,3] fun D J w hs=>QdU (l:=i+1) (h:=l.length+1) (n':=(l.length+1)-(i+1)) QcX QaD.1 (by omega) rfl (.inr ⟨_,_,rfl,rfl⟩) (.inl ⟨rfl,rfl⟩) (by omega) (by omega) (by omega) (Zz hs)
 ·exact oa [] fun D J w hs=>Qac (V:=.slice a (l.length+1) c) rfl (Zz hs)
 ·exact oa [] fun D J w hs=>Qac (V:=.int .i64 (i:Int)) rfl (Zz hs)
 ·exact oa [5,6] fun D J w hs=>QdU (l:=i) (h:=l.length+1) (n':=(l.length+1)-i) QcX QaD.1 (by omega) rfl (.inr ⟨_,_,rfl,rfl⟩) (.inl ⟨rfl,rfl⟩) (by omega) (by omega) (by omega) (Zz hs)
 ·exact oa [4,7] fun D J w hs=>Qdm (lo:=i+1) (ms:=(l.drop i).map cec) (ls':=(l.take (i+1)++l.drop i++l.drop (i+1+(l.drop i).length)).map cec) (n':=(l.take (i+1)++l.drop i++l.drop (i+1+(l.drop i).length)).length) QeK hs 0 rfl rfl rfl (by simp only [QQ6,List.length_drop,List.length_take,List.length_cons,List.length_nil,QQ7,List.length_replicate];omega) (Rd.srcs (Rd.dropM (hs.rd 0 rfl) i hi _ rfl)) (Qbm (enc:=cec) (fun _=>rfl) _) (QaV Qbl _) (by simp only [QQ6,List.length_drop,List.length_take,List.length_cons,List.length_nil,QQ7,List.length_replicate];omega) (by simp only [QQ6,List.length_drop,List.length_take,List.length_cons,List.length_nil,QQ7,List.length_replicate];omega) (by simp only [List.map_append,List.map_take,List.map_drop,List.map_cons,List.map_nil,QQ6,List.length_drop,List.length_take,List.length_cons,List.length_nil]) (by rw [QQ6]) fun _ hs=>⟨rfl,hs⟩
 rintro J1 w11 J2 hJ hs
 replace hJ:J2=mix (sq 69 9) J1 _:=hJ
 replace hs:Own w S w11 [row (.slice a ((l.take (i+1)++l.drop i++l.drop (i+1+(l.drop i).length)).length) c) ((l.take (i+1)++l.drop i++l.drop (i+1+(l.drop i).length)).map cec) 106 7]:=hs
 subst hJ
 refine Qag (Qab (Qaa (Qac (V:=.slice a (l.length+1) c) rfl (Qaa (Qac (V:=I6 (i:Int)) rfl (Qaa (QdU (l:=i) (h:=l.length+1) (n':=(l.length+1)-i) QcX QaD.1 (by omega) rfl (.inr ⟨_,_,rfl,rfl⟩) (.inl ⟨rfl,rfl⟩) (by omega) (by omega) (by omega) (Qaa (Qac (V:=.slice b 1 c2) rfl (Qaa (Qdm (lo:=i) (ms:=[x].map cec) (ls':=((l.take (i+1)++l.drop i++l.drop (i+1+(l.drop i).length)).take i++[x]++(l.take (i+1)++l.drop i++l.drop (i+1+(l.drop i).length)).drop (i+[x].length)).map cec) (n':=((l.take (i+1)++l.drop i++l.drop (i+1+(l.drop i).length)).take i++[x]++(l.take (i+1)++l.drop i++l.drop (i+1+(l.drop i).length)).drop (i+[x].length)).length) QeK hs 0 rfl rfl rfl (by simp only [QQ6,List.length_drop,List.length_take,List.length_cons,List.length_nil,QQ7,List.length_replicate];omega) (Rd.srcs (hvo _ _ hs)) (Qbm (enc:=cec) (fun _=>rfl) _) (QaV Qbl _) (by simp only [QQ6,List.length_drop,List.length_take,List.length_cons,List.length_nil,QQ7,List.length_replicate];omega) (by simp only [QQ6,List.length_drop,List.length_take,List.length_cons,List.length_nil,QQ7,List.length_replicate];omega) (by simp only [List.map_append,List.map_take,List.map_drop,List.map_cons,List.map_nil,QQ6,List.length_drop,List.length_take,List.length_cons,List.length_nil]) (by rw [QQ6]) fun w12 hs=>(Qae (Qag (Qab (Qaa (Qac (V:=.slice a (l.length+1) c) rfl (Qaa (Qad (V:=.slice a (l.length+1) c) rfl (Qae (Qaw ?_))))))))))))))))))))
 refine ⟨_,Qao (V:=.slice a (l.length+1) c) Tryz.results121 rfl,?_⟩
 have hX:(l.take (i+1)++l.drop i++l.drop (i+1+(l.drop i).length)).take i++[x]++(l.take (i+1)++l.drop i++l.drop (i+1+(l.drop i).length)).drop (i+[x].length)=Qds l i x:=Qjv (by omega)
 rw [hX] at hs
 exact ⟨(a,c),by rw [QfM hi],hs.only 0 rfl,trivial⟩
end Tt
end Go.Proofs
