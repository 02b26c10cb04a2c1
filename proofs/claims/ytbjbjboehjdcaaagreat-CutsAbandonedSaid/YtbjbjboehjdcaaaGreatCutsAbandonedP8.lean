/- A part of a proof: what functions of the program compute, and plain facts on that. -/
import Derived.Test.YtbjbjboehjdcaaaGreatCutsAbandonedP7
set_option linter.unusedVariables false
set_option linter.unusedSimpArgs false
set_option maxHeartbeats 4000000
set_option maxRecDepth 100000
namespace Go.Proofs
open Go Go.Vx Go.RowKit
open Go.Sort (ltInt medianAdjacent order2 partition)
namespace Tt
section
variable {hi first r:Nat} {d:Array Int}
theorem Qr3 (h:(hi:Int)<=((2*r+1:Nat):Int)):Sort.siftDown ltInt hi first r d=d:=by rw [Sort.siftDown,dif_pos (by omega)]
theorem Qv1 (h:¬(hi:Int)<=((2*r+1:Nat):Int)) (h1:(((2*r+1)+1:Nat):Int)<(hi:Int)) (h2:d[first+(2*r+1)]!<d[(first+(2*r+1))+1]!) :
  Sort.siftDown ltInt hi first r d=if d[first+r]!<d[first+((2*r+1)+1)]! then Sort.siftDown ltInt hi first ((2*r+1)+1) (Sort.swp d (first+r) (first+((2*r+1)+1))) else d:=by
 rw [Sort.siftDown,dif_neg (by omega),if_pos (by simp only [ltInt,h2,decide_true,Bool.and_true,decide_eq_true_eq];omega)]
 by_cases h3:d[first+r]!<d[first+(2*r+2)]!
 ·rw [if_neg (by simp [ltInt,h3]),dif_pos (by omega)]
  show _=if d[first+r]!<d[first+(2*r+2)]! then Sort.siftDown ltInt hi first (2*r+2) (Sort.swp d (first+r) (first+(2*r+2))) else d
  rw [if_pos h3]
 rw [if_pos (by simp only [ltInt,Bool.not_eq_true',decide_eq_false_iff_not];exact h3)]
 show _=if d[first+r]!<d[first+(2*r+2)]! then Sort.siftDown ltInt hi first (2*r+2) (Sort.swp d (first+r) (first+(2*r+2))) else d
 rw [if_neg h3]
theorem Qv5 (h:¬(hi:Int)<=((2*r+1:Nat):Int)) (h1:(decide ((((2*r+1)+1:Nat):Int)<(hi:Int))&&decide (d[first+(2*r+1)]!<d[(first+(2*r+1))+1]!))=false) :
  Sort.siftDown ltInt hi first r d=if d[first+r]!<d[first+(2*r+1)]! then Sort.siftDown ltInt hi first (2*r+1) (Sort.swp d (first+r) (first+(2*r+1))) else d:=by
 rw [Sort.siftDown,dif_neg (by omega),if_neg]
 ·by_cases h3:d[first+r]!<d[first+(2*r+1)]!
  ·rw [if_neg (by simp [ltInt,h3]),if_pos h3]
  rw [if_pos (by simp only [ltInt,Bool.not_eq_true',decide_eq_false_iff_not];exact h3),if_neg h3]
 intro h2
 rw [Bool.and_eq_true,decide_eq_true_iff] at h2
 rw [Bool.and_eq_false_iff,decide_eq_false_iff_not,decide_eq_false_iff_not] at h1
 rcases h1 with h1|h1
 ·exact h1 (by omega)
 exact h1 (by simpa [ltInt] using h2.2)
end
theorem QmU (w:World) (S:Nat->Prop) (a:Option Addr) (N c:Nat) (d:Array Int) (hsz:d.size=N) (hN:N<=2305843009213693951) (lo hi first:Nat) (h1:lo<=N) (h2:first+hi<=N) (hR:(row (.slice a N c) (d.toList.map (ic .u16)) 32 1).holds w S) (hlt:∀ x,S x->x<w.heap.size):Calls Tryz.prog 185 #[.slice a N c,.int .i64 (lo:Int),.int .i64 (hi:Int),.int .i64 (first:Int)] w (fun e w'=>∃ x:Unit,e = .returned (.tuple #[])/\Own w S w' [row (.slice a N c) ((Sort.siftDown ltInt hi first lo d).toList.map (ic .u16)) 32 1]/\(Sort.siftDown ltInt hi first lo d).size=N):=by
 refine Qaj (n:=76) Tryz.func185 rfl Tryz.ntmps185 rfl ?_
 have hs:=Own.lent hR hlt
 refine Qah (Qab (Qaa (Qac (V:=I6 (lo:Int)) rfl (Qaa (Qad (V:=I6 (lo:Int)) rfl (Qaf (Qan (QaA (fun J μ J' w'=>∃ (Jo:Env) (r:Nat) (d1:Array Int),J'=upd (mix ([8,9]++sq 11 65) Jo J) 8 (I6 (r:Int))/\(r<=N)/\(d1.size=N)/\(Sort.siftDown ltInt hi first r d1=Sort.siftDown ltInt hi first lo d)/\μ=hi-r/\Own w S w' [row (.slice a N c) (d1.toList.map (ic .u16)) 32 1]) ?_ ?_))))))))
 ·exact ⟨_,_,lo,d,Qai (Qap (ds:=([8,9]++sq 11 65)) (Agr.refl _ _)) rfl,(by omega),hsz,rfl,rfl,hs⟩
 rintro μ J' w1 ⟨Jo,r,d1,rfl,hr0,hz1,hev,rfl,hs⟩
 refine Qan (Qah (Qab (Qaa (Qac (V:=I6 (r:Int)) rfl (Qaa (QgM (a:=2) (b:=(r:Int)) (c:=((2*r:Nat):Int)) rfl rfl (Qak (by omega) (by omega)) (Qaa (QaD (a:=((2*r:Nat):Int)) (b:=1) (c:=(((2*r)+1:Nat):Int)) rfl rfl (Qak (by omega) (by omega)) (Qaa (Qad (V:=I6 (((2*r)+1:Nat):Int)) rfl (Qaf (Qah (Qah (Qab (Qaa (Qac (V:=I6 (((2*r)+1:Nat):Int)) rfl (Qaa (Qac (V:=I6 (hi:Int)) rfl (Qaa (Qct rfl rfl (Qaf (Qao (t:=decide ((hi:Int)<=(((2*r)+1:Nat):Int))) rfl (fun c2=>?_) (fun c2=>?_)))))))))))))))))))))))
 ·
  replace c2:=QQ1 c2
  refine QaG ?_
  refine ⟨_,Qbn Tryz.results185,?_⟩
  have hX:d1=Sort.siftDown ltInt hi first lo d:=by rw [← hev,Qr3 c2]
  exact ⟨(),rfl,hX ▸ hs.take 1,hX ▸ (by first|assumption|(simp only [QQ5,Go.Sort.size_swp];omega))⟩
 replace c2:=QQ2 c2
 refine Qaq (Qah (Qah (QaH HM [some 17,some 18,some 19,some 20,some 21,some 22,some 23,some 24,some 25,some 26,some 27,some 28,some 29,some 30,some 31,some 32,some 33,some 34,some 35,some 36] [] [0,1,0,7,15,31,31,31,223,511,1023,31,31,31,12319,28703,63519,129055,262143,524287] [pv (I6 (((2*r)+1:Nat):Int)),pv (I6 ((((2*r)+1)+1:Nat):Int)),pv (I6 (hi:Int)),pv (.bool (decide (((((2*r)+1)+1:Nat):Int)<(hi:Int)))),pv (.bool (decide (((((2*r)+1)+1:Nat):Int)<(hi:Int)))),pg ((decide (((((2*r)+1)+1:Nat):Int)<(hi:Int))) == true) (.slice a N c),pg ((decide (((((2*r)+1)+1:Nat):Int)<(hi:Int))) == true) (I6 (first:Int)),pg ((decide (((((2*r)+1)+1:Nat):Int)<(hi:Int))) == true) (I6 (((2*r)+1:Nat):Int)),pg ((decide (((((2*r)+1)+1:Nat):Int)<(hi:Int))) == true) (I6 ((first+((2*r)+1):Nat):Int)),pg ((decide (((((2*r)+1)+1:Nat):Int)<(hi:Int))) == true) (.pointer (some ⟨bkS (.slice a N c),ofS (.slice a N c)+((first+((2*r)+1):Nat):Int).toNat*1,none⟩)),pg ((decide (((((2*r)+1)+1:Nat):Int)<(hi:Int))) == true) (I7 (d1[first+((2*r)+1)]!)),pg ((decide (((((2*r)+1)+1:Nat):Int)<(hi:Int))) == true) (.slice a N c),pg ((decide (((((2*r)+1)+1:Nat):Int)<(hi:Int))) == true) (I6 (first:Int)),pg ((decide (((((2*r)+1)+1:Nat):Int)<(hi:Int))) == true) (I6 (((2*r)+1:Nat):Int)),pg ((decide (((((2*r)+1)+1:Nat):Int)<(hi:Int))) == true) (I6 ((first+((2*r)+1):Nat):Int)),pg ((decide (((((2*r)+1)+1:Nat):Int)<(hi:Int))) == true) (I6 (((first+((2*r)+1))+1:Nat):Int)),pg ((decide (((((2*r)+1)+1:Nat):Int)<(hi:Int))) == true) (.pointer (some ⟨bkS (.slice a N c),ofS (.slice a N c)+(((first+((2*r)+1))+1:Nat):Int).toNat*1,none⟩)),pg ((decide (((((2*r)+1)+1:Nat):Int)<(hi:Int))) == true) (I7 (d1[(first+((2*r)+1))+1]!)),pg ((decide (((((2*r)+1)+1:Nat):Int)<(hi:Int))) == true) (.bool (decide (d1[first+((2*r)+1)]!<d1[(first+((2*r)+1))+1]!))),pv (.bool ((decide (((((2*r)+1)+1:Nat):Int)<(hi:Int)))&&(decide (d1[first+((2*r)+1)]!<d1[(first+((2*r)+1))+1]!))))] (fun _ _=>_) [19] (by kernel_rfl) hs ⟨?_,?_,?_,?_,?_,?_,?_,?_,?_,?_,?_,?_,?_,?_,?_,?_,?_,?_,?_,?_,trivial⟩ ?_)))
 ·exact oa [] fun D J w hs=>Qac (V:=.int .i64 (((2*r)+1:Nat):Int)) rfl (Zz hs)
 ·exact oa [0] fun D J w hs=>QaD (a:=(((2*r)+1:Nat):Int)) (b:=1) (c:=((((2*r)+1)+1:Nat):Int)) rfl rfl (Qak (by omega) (by omega)) (Zz hs)
 ·exact oa [] fun D J w hs=>Qac (V:=.int .i64 (hi:Int)) rfl (Zz hs)
 ·exact oa [1,2] fun D J w hs=>QaQ rfl rfl (Zz hs)
 ·exact oa [3] fun D J w hs=>Qac (V:=.bool (decide (((((2*r)+1)+1:Nat):Int)<(hi:Int)))) rfl (Zz hs)
 ·refine og [4] fun D J w hG hs=>?_
  have hgd:=QQ1 (eq_of_beq hG)
  exact Qac (V:=.slice a N c) rfl (Zz hs)
 ·refine og [4] fun D J w hG hs=>?_
  have hgd:=QQ1 (eq_of_beq hG)
  exact Qac (V:=.int .i64 (first:Int)) rfl (Zz hs)
 ·refine og [4] fun D J w hG hs=>?_
  have hgd:=QQ1 (eq_of_beq hG)
  exact Qac (V:=.int .i64 (((2*r)+1:Nat):Int)) rfl (Zz hs)
 ·refine oy [4,6,7] [6,7] fun D J w hG hs=>?_
  have hgd:=QQ1 (eq_of_beq hG)
  exact QaD (a:=(first:Int)) (b:=(((2*r)+1:Nat):Int)) (c:=((first+((2*r)+1):Nat):Int)) rfl rfl (Qak (by omega) (by omega)) (Zz hs)
 ·refine oy [4,5,8] [5,8] fun D J w hG hs=>?_
  have hgd:=QQ1 (eq_of_beq hG)
  exact Qax QaI Qas.1 (hs.rd 0 rfl) rfl rfl (by omega) (by simp only [QQ6,QQ9,QQ5,Go.Sort.size_swp];omega) (Zz hs)
 ·refine oy [4,9] [9] fun D J w hG hs=>?_
  have hgd:=QQ1 (eq_of_beq hG)
  exact QaP (j:=0) (V:=.int .u16 (d1[first+((2*r)+1)]!)) (first+((2*r)+1)) Qas (hs.rd 0 rfl) (Qbl (by omega)) rfl rfl (by omega) (Zz hs)
 ·refine og [4] fun D J w hG hs=>?_
  have hgd:=QQ1 (eq_of_beq hG)
  exact Qac (V:=.slice a N c) rfl (Zz hs)
 ·refine og [4] fun D J w hG hs=>?_
  have hgd:=QQ1 (eq_of_beq hG)
  exact Qac (V:=.int .i64 (first:Int)) rfl (Zz hs)
 ·refine og [4] fun D J w hG hs=>?_
  have hgd:=QQ1 (eq_of_beq hG)
  exact Qac (V:=.int .i64 (((2*r)+1:Nat):Int)) rfl (Zz hs)
 ·refine oy [4,12,13] [12,13] fun D J w hG hs=>?_
  have hgd:=QQ1 (eq_of_beq hG)
  exact QaD (a:=(first:Int)) (b:=(((2*r)+1:Nat):Int)) (c:=((first+((2*r)+1):Nat):Int)) rfl rfl (Qak (by omega) (by omega)) (Zz hs)
 ·refine oy [4,14] [14] fun D J w hG hs=>?_
  have hgd:=QQ1 (eq_of_beq hG)
  exact QaD (a:=((first+((2*r)+1):Nat):Int)) (b:=1) (c:=(((first+((2*r)+1))+1:Nat):Int)) rfl rfl (Qak (by omega) (by omega)) (Zz hs)
 ·refine oy [4,11,15] [11,15] fun D J w hG hs=>?_
  have hgd:=QQ1 (eq_of_beq hG)
  exact Qax QaI Qas.1 (hs.rd 0 rfl) rfl rfl (by omega) (by simp only [QQ6,QQ9,QQ5,Go.Sort.size_swp];omega) (Zz hs)
 ·refine oy [4,16] [16] fun D J w hG hs=>?_
  have hgd:=QQ1 (eq_of_beq hG)
  exact QaP (j:=0) (V:=.int .u16 (d1[(first+((2*r)+1))+1]!)) ((first+((2*r)+1))+1) Qas (hs.rd 0 rfl) (Qbl (by omega)) rfl rfl (by omega) (Zz hs)
 ·refine oy [4,10,17] [10,17] fun D J w hG hs=>?_
  have hgd:=QQ1 (eq_of_beq hG)
  exact Qat (vs:=[.int .u16 (d1[first+((2*r)+1)]!),.int .u16 (d1[(first+((2*r)+1))+1]!)]) (V:=.bool (decide (d1[first+((2*r)+1)]!<d1[(first+((2*r)+1))+1]!))) Qc0 rfl rfl (Qcj _ (d1[first+((2*r)+1)]!) (d1[(first+((2*r)+1))+1]!)) hs fun _ hs=>Zz hs
 ·exact oa [4,18] fun D J w hs=>Qa2 (h':=decide (d1[first+((2*r)+1)]!<d1[(first+((2*r)+1))+1]!)) rfl rfl rfl (Zz hs)
 rintro J1 w4 J2 hJ hs
 replace hJ:J2=upd (mix (sq 17 20) J1 _) 36 (.bool ((decide (((((2*r)+1)+1:Nat):Int)<(hi:Int)))&&(decide (d1[first+((2*r)+1)]!<d1[(first+((2*r)+1))+1]!)))):=hJ
 subst hJ
 refine Qao (t:=(decide (((((2*r)+1)+1:Nat):Int)<(hi:Int)))&&(decide (d1[first+((2*r)+1)]!<d1[(first+((2*r)+1))+1]!))) rfl (fun c5=>?_) (fun c5=>?_)
 ·
  have c5r:=QbC c5
  replace c5:=QbA c5
  replace c5:=QQ1 c5
  replace c5r:=QQ1 c5r
  refine Qab (Qaa (Qac (V:=I6 (((2*r)+1:Nat):Int)) rfl (Qaa (QaD (a:=(((2*r)+1:Nat):Int)) (b:=1) (c:=((((2*r)+1)+1:Nat):Int)) rfl rfl (Qak (by omega) (by omega)) (Qaa (Qad (V:=I6 ((((2*r)+1)+1:Nat):Int)) rfl (Qaf (Qah (Qah (QaH HM [some 39,some 40,some 41,some 42,some 43,some 44,some 45,some 46,some 47,some 48,some 49,some 50,some 51,some 52] [] [0,0,0,6,15,31,0,0,0,384,960,1984,4095,8191] [pv (.slice a N c),pv (I6 (first:Int)),pv (I6 (r:Int)),pv (I6 ((first+r:Nat):Int)),pv (.pointer (some ⟨bkS (.slice a N c),ofS (.slice a N c)+((first+r:Nat):Int).toNat*1,none⟩)),pv (I7 (d1[first+r]!)),pv (.slice a N c),pv (I6 (first:Int)),pv (I6 ((((2*r)+1)+1:Nat):Int)),pv (I6 ((first+(((2*r)+1)+1):Nat):Int)),pv (.pointer (some ⟨bkS (.slice a N c),ofS (.slice a N c)+((first+(((2*r)+1)+1):Nat):Int).toNat*1,none⟩)),pv (I7 (d1[first+(((2*r)+1)+1)]!)),pv (.bool (decide (d1[first+r]!<d1[first+(((2*r)+1)+1)]!))),pv (.bool (!decide (d1[first+r]!<d1[first+(((2*r)+1)+1)]!)))] (fun _ _=>_) [13] (by kernel_rfl) hs ⟨?_,?_,?_,?_,?_,?_,?_,?_,?_,?_,?_,?_,?_,?_,trivial⟩ ?_))))))))))
  ·exact oa [] fun D J w hs=>Qac (V:=.slice a N c) rfl (Zz hs)
  ·exact oa [] fun D J w hs=>Qac (V:=.int .i64 (first:Int)) rfl (Zz hs)
  ·exact oa [] fun D J w hs=>Qac (V:=.int .i64 (r:Int)) rfl (Zz hs)
  ·exact oa [1,2] fun D J w hs=>QaD (a:=(first:Int)) (b:=(r:Int)) (c:=((first+r:Nat):Int)) rfl rfl (Qak (by omega) (by omega)) (Zz hs)
  ·exact oa [0,3] fun D J w hs=>Qax QaI Qas.1 (hs.rd 0 rfl) rfl rfl (by omega) (by simp only [QQ6,QQ9,QQ5,Go.Sort.size_swp];omega) (Zz hs)
  ·exact oa [4] fun D J w hs=>QaP (j:=0) (V:=.int .u16 (d1[first+r]!)) (first+r) Qas (hs.rd 0 rfl) (Qbl (by omega)) rfl rfl (by omega) (Zz hs)
  ·exact oa [] fun D J w hs=>Qac (V:=.slice a N c) rfl (Zz hs)
  ·exact oa [] fun D J w hs=>Qac (V:=.int .i64 (first:Int)) rfl (Zz hs)
  ·exact oa [] fun D J w hs=>Qac (V:=.int .i64 ((((2*r)+1)+1:Nat):Int)) rfl (Zz hs)
  ·exact oa [7,8] fun D J w hs=>QaD (a:=(first:Int)) (b:=((((2*r)+1)+1:Nat):Int)) (c:=((first+(((2*r)+1)+1):Nat):Int)) rfl rfl (Qak (by omega) (by omega)) (Zz hs)
  ·exact oa [6,9] fun D J w hs=>Qax QaI Qas.1 (hs.rd 0 rfl) rfl rfl (by omega) (by simp only [QQ6,QQ9,QQ5,Go.Sort.size_swp];omega) (Zz hs)
  ·exact oa [10] fun D J w hs=>QaP (j:=0) (V:=.int .u16 (d1[first+(((2*r)+1)+1)]!)) (first+(((2*r)+1)+1)) Qas (hs.rd 0 rfl) (Qbl (by omega)) rfl rfl (by omega) (Zz hs)
  ·exact oa [5,11] fun D J w hs=>Qat (vs:=[.int .u16 (d1[first+r]!),.int .u16 (d1[first+(((2*r)+1)+1)]!)]) (V:=.bool (decide (d1[first+r]!<d1[first+(((2*r)+1)+1)]!))) Qc0 rfl rfl (Qcj _ (d1[first+r]!) (d1[first+(((2*r)+1)+1)]!)) hs fun _ hs=>Zz hs
  ·exact oa [12] fun D J w hs=>Qbw rfl (Zz hs)
  rintro J1 w7 J2 hJ hs
  replace hJ:J2=upd (mix (sq 39 14) J1 _) 52 (.bool (!decide (d1[first+r]!<d1[first+(((2*r)+1)+1)]!))):=hJ
  subst hJ
  refine Qao (t:=!decide (d1[first+r]!<d1[first+(((2*r)+1)+1)]!)) rfl (fun c8=>?_) (fun c8=>?_)
  ·
   replace c8:=Qbp c8
   replace c8:=QQ2 c8
   refine Qav ?_
   refine ⟨_,Qbn Tryz.results185,?_⟩
   have hX:d1=Sort.siftDown ltInt hi first lo d:=by rw [← hev,Qv1 c2 c5 c5r,if_neg c8]
   exact ⟨(),rfl,hX ▸ hs.take 1,hX ▸ (by first|assumption|(simp only [QQ5,Go.Sort.size_swp];omega))⟩
  replace c8:=Qbf c8
  replace c8:=QQ1 c8
  refine Qaq (Qah (QaH HM [some 53,some 54,some 55,some 56,some 57,some 58,some 59,some 60,some 61,some 62,some 63,some 64,some 65,some 66,some 67,some 68,some 69,some 70,some 71,some 72,some 73,none,some 74,none] [] [0,0,0,6,0,0,0,96,0,0,0,1536,3840,7936,0,0,0,98304,245760,507904,1048335,2096911,4194303,8388607] [pv (.slice a N c),pv (I6 (first:Int)),pv (I6 (r:Int)),pv (I6 ((first+r:Nat):Int)),pv (.slice a N c),pv (I6 (first:Int)),pv (I6 ((((2*r)+1)+1:Nat):Int)),pv (I6 ((first+(((2*r)+1)+1):Nat):Int)),pv (.slice a N c),pv (I6 (first:Int)),pv (I6 ((((2*r)+1)+1:Nat):Int)),pv (I6 ((first+(((2*r)+1)+1):Nat):Int)),pv (.pointer (some ⟨bkS (.slice a N c),ofS (.slice a N c)+((first+(((2*r)+1)+1):Nat):Int).toNat*1,none⟩)),pv (I7 (d1[first+(((2*r)+1)+1)]!)),pv (.slice a N c),pv (I6 (first:Int)),pv (I6 (r:Int)),pv (I6 ((first+r:Nat):Int)),pv (.pointer (some ⟨bkS (.slice a N c),ofS (.slice a N c)+((first+r:Nat):Int).toNat*1,none⟩)),pv (I7 (d1[first+r]!)),pv (.pointer (some ⟨bkS (.slice a N c),ofS (.slice a N c)+((first+r:Nat):Int).toNat*1,none⟩)),pn,pv (.pointer (some ⟨bkS (.slice a N c),ofS (.slice a N c)+((first+(((2*r)+1)+1):Nat):Int).toNat*1,none⟩)),pn] (fun D J=>[cond (D 23) (row (.slice a N c) ((((d1.setIfInBounds (first+r) (d1[first+(((2*r)+1)+1)]!)).setIfInBounds (first+(((2*r)+1)+1)) (d1[first+r]!)).toList).map (ic .u16)) 32 1) (cond (D 21) (row (.slice a N c) (((d1.setIfInBounds (first+r) (d1[first+(((2*r)+1)+1)]!)).toList).map (ic .u16)) 32 1) (row (.slice a N c) (d1.toList.map (ic .u16)) 32 1))]) [] (by kernel_rfl) hs ⟨?_,?_,?_,?_,?_,?_,?_,?_,?_,?_,?_,?_,?_,?_,?_,?_,?_,?_,?_,?_,?_,?_,?_,?_,trivial⟩ ?_))
  ·exact oa [] fun D J w hs=>Qac (V:=.slice a N c) rfl (Zz hs)
  ·exact oa [] fun D J w hs=>Qac (V:=.int .i64 (first:Int)) rfl (Zz hs)
  ·exact oa [] fun D J w hs=>Qac (V:=.int .i64 (r:Int)) rfl (Zz hs)
  ·exact oa [1,2] fun D J w hs=>QaD (a:=(first:Int)) (b:=(r:Int)) (c:=((first+r:Nat):Int)) rfl rfl (Qak (by omega) (by omega)) (Zz hs)
  ·exact oa [] fun D J w hs=>Qac (V:=.slice a N c) rfl (Zz hs)
  ·exact oa [] fun D J w hs=>Qac (V:=.int .i64 (first:Int)) rfl (Zz hs)
  ·exact oa [] fun D J w hs=>Qac (V:=.int .i64 ((((2*r)+1)+1:Nat):Int)) rfl (Zz hs)
  ·exact oa [5,6] fun D J w hs=>QaD (a:=(first:Int)) (b:=((((2*r)+1)+1:Nat):Int)) (c:=((first+(((2*r)+1)+1):Nat):Int)) rfl rfl (Qak (by omega) (by omega)) (Zz hs)
  ·exact oa [] fun D J w hs=>Qac (V:=.slice a N c) rfl (Zz hs)
  ·exact oa [] fun D J w hs=>Qac (V:=.int .i64 (first:Int)) rfl (Zz hs)
  ·exact oa [] fun D J w hs=>Qac (V:=.int .i64 ((((2*r)+1)+1:Nat):Int)) rfl (Zz hs)
  ·exact oa [9,10] fun D J w hs=>QaD (a:=(first:Int)) (b:=((((2*r)+1)+1:Nat):Int)) (c:=((first+(((2*r)+1)+1):Nat):Int)) rfl rfl (Qak (by omega) (by omega)) (Zz hs)
  ·exact ob [8,11] [21,23] rfl rfl fun D J w hs=>Qax QaI Qas.1 (hs.rd 0 rfl) rfl rfl (by omega) (by simp only [QQ6,QQ9,QQ5,Go.Sort.size_swp];omega) (Zz hs)
  ·exact ob [12] [21,23] rfl rfl fun D J w hs=>QaP (j:=0) (V:=I7 (d1[first+(((2*r)+1)+1)]!)) (first+(((2*r)+1)+1)) Qas (hs.rd 0 rfl) (Qbl (by omega)) rfl rfl (by omega) (Zz hs)
  ·exact oa [] fun D J w hs=>Qac (V:=.slice a N c) rfl (Zz hs)
  ·exact oa [] fun D J w hs=>Qac (V:=.int .i64 (first:Int)) rfl (Zz hs)
  ·exact oa [] fun D J w hs=>Qac (V:=.int .i64 (r:Int)) rfl (Zz hs)
  ·exact oa [15,16] fun D J w hs=>QaD (a:=(first:Int)) (b:=(r:Int)) (c:=((first+r:Nat):Int)) rfl rfl (Qak (by omega) (by omega)) (Zz hs)
  ·exact ob [14,17] [21,23] rfl rfl fun D J w hs=>Qax QaI Qas.1 (hs.rd 0 rfl) rfl rfl (by omega) (by simp only [QQ6,QQ9,QQ5,Go.Sort.size_swp];omega) (Zz hs)
  ·exact ob [18] [21,23] rfl rfl fun D J w hs=>QaP (j:=0) (V:=I7 (d1[first+r]!)) (first+r) Qas (hs.rd 0 rfl) (Qbl (by omega)) rfl rfl (by omega) (Zz hs)
  ·exact ob [0,3] [21,23] rfl rfl fun D J w hs=>Qax QaI Qas.1 (hs.rd 0 rfl) rfl rfl (by omega) (by simp only [QQ6,QQ9,QQ5,Go.Sort.size_swp];omega) (Zz hs)
  ·exact ob [13,20] [23] rfl rfl fun D J w hs=>Qce (z:=d1[first+(((2*r)+1)+1)]!) (first+r) Qas hs 0 rfl rfl (by omega) (by first|omega|(simp only [QQ5,Go.Sort.size_swp];omega)) rfl rfl rfl fun _ hs=>⟨trivial,hs⟩
  ·exact ob [4,7,21] [23] rfl rfl fun D J w hs=>Qax QaI Qas.1 (hs.rd 0 rfl) rfl rfl (by omega) (by simp only [QQ6,QQ9,QQ5,Go.Sort.size_swp];omega) (Zz hs)
  ·exact oa [19,21,22] fun D J w hs=>Qce (z:=d1[first+r]!) (first+(((2*r)+1)+1)) Qas hs 0 rfl rfl (by omega) (by first|omega|(simp only [QQ5,Go.Sort.size_swp];omega)) rfl rfl rfl fun _ hs=>⟨trivial,hs⟩
  rintro J1 w11 J2 hJ hs
  replace hJ:J2=mix (sq 53 22) J1 _:=hJ
  replace hs:Own w S w11 [row (.slice a N c) ((((d1.setIfInBounds (first+r) (d1[first+(((2*r)+1)+1)]!)).setIfInBounds (first+(((2*r)+1)+1)) (d1[first+r]!)).toList).map (ic .u16)) 32 1]:=hs
  subst hJ
  refine Qab (Qaa (Qac (V:=I6 ((((2*r)+1)+1:Nat):Int)) rfl (Qaa (Qad (V:=I6 ((((2*r)+1)+1:Nat):Int)) rfl (Qaf ?_)))))
  refine ⟨_,?_,_,((2*r)+1)+1,((d1.setIfInBounds (first+r) (d1[first+(((2*r)+1)+1)]!)).setIfInBounds (first+(((2*r)+1)+1)) (d1[first+r]!)),Qai (Qap (ds:=([8,9]++sq 11 65)) (by repeat (first|exact Agr.refl _ _|refine Agr.upd ?_ rfl|refine Agr.mix ?_ rfl))) rfl,(by omega),(by simp only [QQ5];exact hz1),(by rw [← hev,Qv1 c2 c5 c5r,if_pos c8];rfl),rfl,hs.take 1⟩
  omega
 refine Qaq (Qah (Qah (QaH HM [some 39,some 40,some 41,some 42,some 43,some 44,some 45,some 46,some 47,some 48,some 49,some 50,some 51,some 52] [] [0,0,0,6,15,31,0,0,0,384,960,1984,4095,8191] [pv (.slice a N c),pv (I6 (first:Int)),pv (I6 (r:Int)),pv (I6 ((first+r:Nat):Int)),pv (.pointer (some ⟨bkS (.slice a N c),ofS (.slice a N c)+((first+r:Nat):Int).toNat*1,none⟩)),pv (I7 (d1[first+r]!)),pv (.slice a N c),pv (I6 (first:Int)),pv (I6 (((2*r)+1:Nat):Int)),pv (I6 ((first+((2*r)+1):Nat):Int)),pv (.pointer (some ⟨bkS (.slice a N c),ofS (.slice a N c)+((first+((2*r)+1):Nat):Int).toNat*1,none⟩)),pv (I7 (d1[first+((2*r)+1)]!)),pv (.bool (decide (d1[first+r]!<d1[first+((2*r)+1)]!))),pv (.bool (!decide (d1[first+r]!<d1[first+((2*r)+1)]!)))] (fun _ _=>_) [13] (by kernel_rfl) hs ⟨?_,?_,?_,?_,?_,?_,?_,?_,?_,?_,?_,?_,?_,?_,trivial⟩ ?_)))
 ·exact oa [] fun D J w hs=>Qac (V:=.slice a N c) rfl (Zz hs)
 ·exact oa [] fun D J w hs=>Qac (V:=.int .i64 (first:Int)) rfl (Zz hs)
 ·exact oa [] fun D J w hs=>Qac (V:=.int .i64 (r:Int)) rfl (Zz hs)
 ·exact oa [1,2] fun D J w hs=>QaD (a:=(first:Int)) (b:=(r:Int)) (c:=((first+r:Nat):Int)) rfl rfl (Qak (by omega) (by omega)) (Zz hs)
 ·exact oa [0,3] fun D J w hs=>Qax QaI Qas.1 (hs.rd 0 rfl) rfl rfl (by omega) (by simp only [QQ6,QQ9,QQ5,Go.Sort.size_swp];omega) (Zz hs)
 ·exact oa [4] fun D J w hs=>QaP (j:=0) (V:=.int .u16 (d1[first+r]!)) (first+r) Qas (hs.rd 0 rfl) (Qbl (by omega)) rfl rfl (by omega) (Zz hs)
 ·exact oa [] fun D J w hs=>Qac (V:=.slice a N c) rfl (Zz hs)
 ·exact oa [] fun D J w hs=>Qac (V:=.int .i64 (first:Int)) rfl (Zz hs)
 ·exact oa [] fun D J w hs=>Qac (V:=.int .i64 (((2*r)+1:Nat):Int)) rfl (Zz hs)
 ·exact oa [7,8] fun D J w hs=>QaD (a:=(first:Int)) (b:=(((2*r)+1:Nat):Int)) (c:=((first+((2*r)+1):Nat):Int)) rfl rfl (Qak (by omega) (by omega)) (Zz hs)
 ·exact oa [6,9] fun D J w hs=>Qax QaI Qas.1 (hs.rd 0 rfl) rfl rfl (by omega) (by simp only [QQ6,QQ9,QQ5,Go.Sort.size_swp];omega) (Zz hs)
 ·exact oa [10] fun D J w hs=>QaP (j:=0) (V:=.int .u16 (d1[first+((2*r)+1)]!)) (first+((2*r)+1)) Qas (hs.rd 0 rfl) (Qbl (by omega)) rfl rfl (by omega) (Zz hs)
 ·exact oa [5,11] fun D J w hs=>Qat (vs:=[.int .u16 (d1[first+r]!),.int .u16 (d1[first+((2*r)+1)]!)]) (V:=.bool (decide (d1[first+r]!<d1[first+((2*r)+1)]!))) Qc0 rfl rfl (Qcj _ (d1[first+r]!) (d1[first+((2*r)+1)]!)) hs fun _ hs=>Zz hs
 ·exact oa [12] fun D J w hs=>Qbw rfl (Zz hs)
 rintro J1 w13 J2 hJ hs
 replace hJ:J2=upd (mix (sq 39 14) J1 _) 52 (.bool (!decide (d1[first+r]!<d1[first+((2*r)+1)]!))):=hJ
 subst hJ
 refine Qao (t:=!decide (d1[first+r]!<d1[first+((2*r)+1)]!)) rfl (fun c14=>?_) (fun c14=>?_)
 ·
  replace c14:=Qbp c14
  replace c14:=QQ2 c14
  refine Qav ?_
  refine ⟨_,Qbn Tryz.results185,?_⟩
  have hX:d1=Sort.siftDown ltInt hi first lo d:=by rw [← hev,Qv5 c2 c5,if_neg c14]
  exact ⟨(),rfl,hX ▸ hs.take 1,hX ▸ (by first|assumption|(simp only [QQ5,Go.Sort.size_swp];omega))⟩
 replace c14:=Qbf c14
 replace c14:=QQ1 c14
 refine Qaq (Qah (QaH HM [some 53,some 54,some 55,some 56,some 57,some 58,some 59,some 60,some 61,some 62,some 63,some 64,some 65,some 66,some 67,some 68,some 69,some 70,some 71,some 72,some 73,none,some 74,none] [] [0,0,0,6,0,0,0,96,0,0,0,1536,3840,7936,0,0,0,98304,245760,507904,1048335,2096911,4194303,8388607] [pv (.slice a N c),pv (I6 (first:Int)),pv (I6 (r:Int)),pv (I6 ((first+r:Nat):Int)),pv (.slice a N c),pv (I6 (first:Int)),pv (I6 (((2*r)+1:Nat):Int)),pv (I6 ((first+((2*r)+1):Nat):Int)),pv (.slice a N c),pv (I6 (first:Int)),pv (I6 (((2*r)+1:Nat):Int)),pv (I6 ((first+((2*r)+1):Nat):Int)),pv (.pointer (some ⟨bkS (.slice a N c),ofS (.slice a N c)+((first+((2*r)+1):Nat):Int).toNat*1,none⟩)),pv (I7 (d1[first+((2*r)+1)]!)),pv (.slice a N c),pv (I6 (first:Int)),pv (I6 (r:Int)),pv (I6 ((first+r:Nat):Int)),pv (.pointer (some ⟨bkS (.slice a N c),ofS (.slice a N c)+((first+r:Nat):Int).toNat*1,none⟩)),pv (I7 (d1[first+r]!)),pv (.pointer (some ⟨bkS (.slice a N c),ofS (.slice a N c)+((first+r:Nat):Int).toNat*1,none⟩)),pn,pv (.pointer (some ⟨bkS (.slice a N c),ofS (.slice a N c)+((first+((2*r)+1):Nat):Int).toNat*1,none⟩)),pn] (fun D J=>[cond (D 23) (row (.slice a N c) ((((d1.setIfInBounds (first+r) (d1[first+((2*r)+1)]!)).setIfInBounds (first+((2*r)+1)) (d1[first+r]!)).toList).map (ic .u16)) 32 1) (cond (D 21) (row (.slice a N c) (((d1.setIfInBounds (first+r) (d1[first+((2*r)+1)]!)).toList).map (ic .u16)) 32 1) (row (.slice a N c) (d1.toList.map (ic .u16)) 32 1))]) [] (by kernel_rfl) hs ⟨?_,?_,?_,?_,?_,?_,?_,?_,?_,?_,?_,?_,?_,?_,?_,?_,?_,?_,?_,?_,?_,?_,?_,?_,trivial⟩ ?_))
 ·exact oa [] fun D J w hs=>Qac (V:=.slice a N c) rfl (Zz hs)
 ·exact oa [] fun D J w hs=>Qac (V:=.int .i64 (first:Int)) rfl (Zz hs)
 ·exact oa [] fun D J w hs=>Qac (V:=.int .i64 (r:Int)) rfl (Zz hs)
 ·exact oa [1,2] fun D J w hs=>QaD (a:=(first:Int)) (b:=(r:Int)) (c:=((first+r:Nat):Int)) rfl rfl (Qak (by omega) (by omega)) (Zz hs)
 ·exact oa [] fun D J w hs=>Qac (V:=.slice a N c) rfl (Zz hs)
 ·exact oa [] fun D J w hs=>Qac (V:=.int .i64 (first:Int)) rfl (Zz hs)
 ·exact oa [] fun D J w hs=>Qac (V:=.int .i64 (((2*r)+1:Nat):Int)) rfl (Zz hs)
 ·exact oa [5,6] fun D J w hs=>QaD (a:=(first:Int)) (b:=(((2*r)+1:Nat):Int)) (c:=((first+((2*r)+1):Nat):Int)) rfl rfl (Qak (by omega) (by omega)) (Zz hs)
 ·exact oa [] fun D J w hs=>Qac (V:=.slice a N c) rfl (Zz hs)
 ·exact oa [] fun D J w hs=>Qac (V:=.int .i64 (first:Int)) rfl (Zz hs)
 ·exact oa [] fun D J w hs=>Qac (V:=.int .i64 (((2*r)+1:Nat):Int)) rfl (Zz hs)
 ·exact oa [9,10] fun D J w hs=>QaD (a:=(first:Int)) (b:=(((2*r)+1:Nat):Int)) (c:=((first+((2*r)+1):Nat):Int)) rfl rfl (Qak (by omega) (by omega)) (Zz hs)
 ·exact ob [8,11] [21,23] rfl rfl fun D J w hs=>Qax QaI Qas.1 (hs.rd 0 rfl) rfl rfl (by omega) (by simp only [QQ6,QQ9,QQ5,Go.Sort.size_swp];omega) (Zz hs)
 ·exact ob [12] [21,23] rfl rfl fun D J w hs=>QaP (j:=0) (V:=I7 (d1[first+((2*r)+1)]!)) (first+((2*r)+1)) Qas (hs.rd 0 rfl) (Qbl (by omega)) rfl rfl (by omega) (Zz hs)
 ·exact oa [] fun D J w hs=>Qac (V:=.slice a N c) rfl (Zz hs)
 ·exact oa [] fun D J w hs=>Qac (V:=.int .i64 (first:Int)) rfl (Zz hs)
 ·exact oa [] fun D J w hs=>Qac (V:=.int .i64 (r:Int)) rfl (Zz hs)
 ·exact oa [15,16] fun D J w hs=>QaD (a:=(first:Int)) (b:=(r:Int)) (c:=((first+r:Nat):Int)) rfl rfl (Qak (by omega) (by omega)) (Zz hs)
 ·exact ob [14,17] [21,23] rfl rfl fun D J w hs=>Qax QaI Qas.1 (hs.rd 0 rfl) rfl rfl (by omega) (by simp only [QQ6,QQ9,QQ5,Go.Sort.size_swp];omega) (Zz hs)
 ·exact ob [18] [21,23] rfl rfl fun D J w hs=>QaP (j:=0) (V:=I7 (d1[first+r]!)) (first+r) Qas (hs.rd 0 rfl) (Qbl (by omega)) rfl rfl (by omega) (Zz hs)
 ·exact ob [0,3] [21,23] rfl rfl fun D J w hs=>Qax QaI Qas.1 (hs.rd 0 rfl) rfl rfl (by omega) (by simp only [QQ6,QQ9,QQ5,Go.Sort.size_swp];omega) (Zz hs)
 ·exact ob [13,20] [23] rfl rfl fun D J w hs=>Qce (z:=d1[first+((2*r)+1)]!) (first+r) Qas hs 0 rfl rfl (by omega) (by first|omega|(simp only [QQ5,Go.Sort.size_swp];omega)) rfl rfl rfl fun _ hs=>⟨trivial,hs⟩
 ·exact ob [4,7,21] [23] rfl rfl fun D J w hs=>Qax QaI Qas.1 (hs.rd 0 rfl) rfl rfl (by omega) (by simp only [QQ6,QQ9,QQ5,Go.Sort.size_swp];omega) (Zz hs)
 ·exact oa [19,21,22] fun D J w hs=>Qce (z:=d1[first+r]!) (first+((2*r)+1)) Qas hs 0 rfl rfl (by omega) (by first|omega|(simp only [QQ5,Go.Sort.size_swp];omega)) rfl rfl rfl fun _ hs=>⟨trivial,hs⟩
 rintro J1 w17 J2 hJ hs
 replace hJ:J2=mix (sq 53 22) J1 _:=hJ
 replace hs:Own w S w17 [row (.slice a N c) ((((d1.setIfInBounds (first+r) (d1[first+((2*r)+1)]!)).setIfInBounds (first+((2*r)+1)) (d1[first+r]!)).toList).map (ic .u16)) 32 1]:=hs
 subst hJ
 refine Qab (Qaa (Qac (V:=I6 (((2*r)+1:Nat):Int)) rfl (Qaa (Qad (V:=I6 (((2*r)+1:Nat):Int)) rfl (Qaf ?_)))))
 refine ⟨_,?_,_,(2*r)+1,((d1.setIfInBounds (first+r) (d1[first+((2*r)+1)]!)).setIfInBounds (first+((2*r)+1)) (d1[first+r]!)),Qai (Qap (ds:=([8,9]++sq 11 65)) (by repeat (first|exact Agr.refl _ _|refine Agr.upd ?_ rfl|refine Agr.mix ?_ rfl))) rfl,(by omega),(by simp only [QQ5];exact hz1),(by rw [← hev,Qv5 c2 c5,if_pos c14];rfl),rfl,hs.take 1⟩
 omega
theorem Qrg {i j:Nat} {d:Array Int} (h:(i:Int)<(j:Int)):Sort.reverseLoop i j d=Sort.reverseLoop (i+1) (j-1) (Sort.swp d i j):=by rw [Sort.reverseLoop,if_pos (by omega)]
theorem Qtx {i j:Nat} {d:Array Int} (h:¬(i:Int)<(j:Int)):Sort.reverseLoop i j d=d:=by rw [Sort.reverseLoop,if_neg (by omega)]
theorem Qtg (w:World) (S:Nat->Prop) (a:Option Addr) (N c:Nat) (d:Array Int) (hsz:d.size=N) (hN:N<=2305843009213693951) (lo hi:Nat) (h1:lo<hi) (h2:hi<=N) (hR:(row (.slice a N c) (d.toList.map (ic .u16)) 32 1).holds w S) (hlt:∀ x,S x->x<w.heap.size):Calls Tryz.prog 176 #[.slice a N c,.int .i64 (lo:Int),.int .i64 (hi:Int)] w (fun e w'=>∃ x:Unit,e = .returned (.tuple #[])/\Own w S w' [row (.slice a N c) ((Sort.reverseRange d lo hi).toList.map (ic .u16)) 32 1]/\(Sort.reverseRange d lo hi).size=N):=by
 refine Qaj (n:=32) Tryz.func176 rfl Tryz.ntmps176 rfl ?_
 have hs:=Own.lent hR hlt
 refine Qah (Qab (Qaa (Qac (V:=I6 (lo:Int)) rfl (Qaa (Qad (V:=I6 (lo:Int)) rfl (Qaf (Qah (Qab (Qaa (Qac (V:=I6 (hi:Int)) rfl (Qaa (Qa6 (a:=(hi:Int)) (b:=1) (c:=((hi-1:Nat):Int)) rfl rfl (Qak (by omega) (by omega)) (Qaa (Qad (V:=I6 ((hi-1:Nat):Int)) rfl (Qaf (Qan (QaA (fun J μ J' w'=>∃ (Jo:Env) (i:Nat) (j:Nat) (d1:Array Int),J'=upd (upd (mix ([6,7]++sq 11 21) Jo J) 6 (I6 (i:Int))) 7 (I6 (j:Int))/\(lo<=i)/\(j<hi)/\(d1.size=N)/\(Sort.reverseLoop i j d1=Sort.reverseRange d lo hi)/\μ=j-i/\Own w S w' [row (.slice a N c) (d1.toList.map (ic .u16)) 32 1]) ?_ ?_)))))))))))))))))
 ·exact ⟨_,_,lo,hi-1,d,Qai (Qai (Qap (ds:=([6,7]++sq 11 21)) (Agr.refl _ _)) rfl) rfl,(Nat.le_refl _),(by omega),hsz,rfl,rfl,hs⟩
 rintro μ J' w1 ⟨Jo,i,j,d1,rfl,hi0,hj,hz1,hev,rfl,hs⟩
 refine Qah (Qah (Qab (Qaa (Qac (V:=I6 (i:Int)) rfl (Qaa (Qac (V:=I6 (j:Int)) rfl (Qaa (QaQ rfl rfl (Qaf (Qao (t:=decide ((i:Int)<(j:Int))) rfl (fun c2=>?_) (fun c2=>?_)))))))))))
 ·
  replace c2:=QQ1 c2
  refine Qaq (Qan (Qah (QaH HM [some 14,some 15,some 16,some 17,some 18,some 19,some 20,some 21,some 22,some 23,some 24,some 25,some 26,none,some 27,none] [] [0,0,0,0,0,0,48,112,0,0,768,1792,4083,8179,16383,32767] [pv (.slice a N c),pv (I6 (i:Int)),pv (.slice a N c),pv (I6 (j:Int)),pv (.slice a N c),pv (I6 (j:Int)),pv (.pointer (some ⟨bkS (.slice a N c),ofS (.slice a N c)+(j:Int).toNat*1,none⟩)),pv (I7 (d1[j]!)),pv (.slice a N c),pv (I6 (i:Int)),pv (.pointer (some ⟨bkS (.slice a N c),ofS (.slice a N c)+(i:Int).toNat*1,none⟩)),pv (I7 (d1[i]!)),pv (.pointer (some ⟨bkS (.slice a N c),ofS (.slice a N c)+(i:Int).toNat*1,none⟩)),pn,pv (.pointer (some ⟨bkS (.slice a N c),ofS (.slice a N c)+(j:Int).toNat*1,none⟩)),pn] (fun D J=>[cond (D 15) (row (.slice a N c) ((((d1.setIfInBounds i (d1[j]!)).setIfInBounds j (d1[i]!)).toList).map (ic .u16)) 32 1) (cond (D 13) (row (.slice a N c) (((d1.setIfInBounds i (d1[j]!)).toList).map (ic .u16)) 32 1) (row (.slice a N c) (d1.toList.map (ic .u16)) 32 1))]) [] (by kernel_rfl) hs ⟨?_,?_,?_,?_,?_,?_,?_,?_,?_,?_,?_,?_,?_,?_,?_,?_,trivial⟩ ?_)))
  ·exact oa [] fun D J w hs=>Qac (V:=.slice a N c) rfl (Zz hs)
  ·exact oa [] fun D J w hs=>Qac (V:=.int .i64 (i:Int)) rfl (Zz hs)
  ·exact oa [] fun D J w hs=>Qac (V:=.slice a N c) rfl (Zz hs)
  ·exact oa [] fun D J w hs=>Qac (V:=.int .i64 (j:Int)) rfl (Zz hs)
  ·exact oa [] fun D J w hs=>Qac (V:=.slice a N c) rfl (Zz hs)
  ·exact oa [] fun D J w hs=>Qac (V:=.int .i64 (j:Int)) rfl (Zz hs)
  ·exact ob [4,5] [13,15] rfl rfl fun D J w hs=>Qax QaI Qas.1 (hs.rd 0 rfl) rfl rfl (by omega) (by simp only [QQ6,QQ9,QQ5,Go.Sort.size_swp];omega) (Zz hs)
  ·exact ob [6] [13,15] rfl rfl fun D J w hs=>QaP (j:=0) (V:=I7 (d1[j]!)) j Qas (hs.rd 0 rfl) (Qbl (by omega)) rfl rfl (by omega) (Zz hs)
  ·exact oa [] fun D J w hs=>Qac (V:=.slice a N c) rfl (Zz hs)
  ·exact oa [] fun D J w hs=>Qac (V:=.int .i64 (i:Int)) rfl (Zz hs)
  ·exact ob [8,9] [13,15] rfl rfl fun D J w hs=>Qax QaI Qas.1 (hs.rd 0 rfl) rfl rfl (by omega) (by simp only [QQ6,QQ9,QQ5,Go.Sort.size_swp];omega) (Zz hs)
  ·exact ob [10] [13,15] rfl rfl fun D J w hs=>QaP (j:=0) (V:=I7 (d1[i]!)) i Qas (hs.rd 0 rfl) (Qbl (by omega)) rfl rfl (by omega) (Zz hs)
  ·exact ob [0,1] [13,15] rfl rfl fun D J w hs=>Qax QaI Qas.1 (hs.rd 0 rfl) rfl rfl (by omega) (by simp only [QQ6,QQ9,QQ5,Go.Sort.size_swp];omega) (Zz hs)
  ·exact ob [7,12] [15] rfl rfl fun D J w hs=>Qce (z:=d1[j]!) i Qas hs 0 rfl rfl (by omega) (by first|omega|(simp only [QQ5,Go.Sort.size_swp];omega)) rfl rfl rfl fun _ hs=>⟨trivial,hs⟩
  ·exact ob [2,3,13] [15] rfl rfl fun D J w hs=>Qax QaI Qas.1 (hs.rd 0 rfl) rfl rfl (by omega) (by simp only [QQ6,QQ9,QQ5,Go.Sort.size_swp];omega) (Zz hs)
  ·exact oa [11,13,14] fun D J w hs=>Qce (z:=d1[i]!) j Qas hs 0 rfl rfl (by omega) (by first|omega|(simp only [QQ5,Go.Sort.size_swp];omega)) rfl rfl rfl fun _ hs=>⟨trivial,hs⟩
  rintro J1 w5 J2 hJ hs
  replace hJ:J2=mix (sq 14 14) J1 _:=hJ
  replace hs:Own w S w5 [row (.slice a N c) ((((d1.setIfInBounds i (d1[j]!)).setIfInBounds j (d1[i]!)).toList).map (ic .u16)) 32 1]:=hs
  subst hJ
  refine Qah (Qab (Qaa (Qac (V:=I6 (i:Int)) rfl (Qaa (QaD (a:=(i:Int)) (b:=1) (c:=((i+1:Nat):Int)) rfl rfl (Qak (by omega) (by omega)) (Qaa (Qad (V:=I6 ((i+1:Nat):Int)) rfl (Qaf (Qab (Qaa (Qac (V:=I6 (j:Int)) rfl (Qaa (Qa6 (a:=(j:Int)) (b:=1) (c:=((j-1:Nat):Int)) rfl rfl (Qak (by omega) (by omega)) (Qaa (Qad (V:=I6 ((j-1:Nat):Int)) rfl (Qaf ?_))))))))))))))))
  refine ⟨_,?_,_,i+1,j-1,((d1.setIfInBounds i (d1[j]!)).setIfInBounds j (d1[i]!)),Qai (Qai (Qap (ds:=([6,7]++sq 11 21)) (by repeat (first|exact Agr.refl _ _|refine Agr.upd ?_ rfl|refine Agr.mix ?_ rfl))) rfl) rfl,(by omega),(by omega),(by simp only [QQ5];exact hz1),(by rw [← hev,Qrg (d:=d1) c2];rfl),rfl,hs.take 1⟩
  omega
 replace c2:=QQ2 c2
 refine QaG ?_
 refine ⟨_,Qbn Tryz.results176,?_⟩
 have hX:d1=Sort.reverseRange d lo hi:=by rw [← hev,Qtx c2]
 exact ⟨(),rfl,hX ▸ hs.take 1,hX ▸ (by first|assumption|(simp only [QQ5,Go.Sort.size_swp];omega))⟩
end Tt
end Go.Proofs
namespace Go.Proofs
open Go Go.Vx Go.RowKit
open Go.Sort (ltInt medianAdjacent order2 partition)
namespace Tt
theorem QrY {n first k:Nat} {d:Array Int} (h:1<=k):Sort.heapBuild ltInt n first k d=Sort.heapBuild ltInt n first (k-1) (Sort.siftDown ltInt n first (k-1) d):=by
 obtain ⟨i,rfl⟩:∃ i,k=i+1:=⟨k-1,by omega⟩
 rfl
theorem QqZ {first k:Nat} {d:Array Int} (h:1<=k):Sort.heapPop ltInt first k d=Sort.heapPop ltInt first (k-1) (Sort.siftDown ltInt (k-1) first 0 (Sort.swp d first (first+(k-1)))):=by
 obtain ⟨i,rfl⟩:∃ i,k=i+1:=⟨k-1,by omega⟩
 rfl
theorem Qpn {n:Nat}:((n:Int)-1).tdiv 2=(((n-1)/2:Nat):Int):=by
 cases n with
 | zero=>rfl
 | succ m=>rw [show (((m+1:Nat):Int)-1)=(m:Int) by omega];rfl
theorem Qr2 (w:World) (S:Nat->Prop) (a:Option Addr) (N c:Nat) (d:Array Int) (hsz:d.size=N) (hN:N<=2305843009213693951) (lo hi:Nat) (h1:lo<=hi) (h2:hi<=N) (hR:(row (.slice a N c) (d.toList.map (ic .u16)) 32 1).holds w S) (hlt:∀ x,S x->x<w.heap.size):Calls Tryz.prog 173 #[.slice a N c,.int .i64 (lo:Int),.int .i64 (hi:Int)] w (fun e w'=>∃ x:Unit,e = .returned (.tuple #[])/\Own w S w' [row (.slice a N c) ((Sort.heapSort ltInt d lo hi).toList.map (ic .u16)) 32 1]/\(Sort.heapSort ltInt d lo hi).size=N):=by
 refine Qaj (n:=56) Tryz.func173 rfl Tryz.ntmps173 rfl ?_
 have hs:=Own.lent hR hlt
 refine Qah (Qab (Qaa (Qac (V:=I6 (lo:Int)) rfl (Qaa (Qad (V:=I6 (lo:Int)) rfl (Qaf (Qah (Qab (Qaa (Qad (V:=I6 0) rfl (Qaf (Qah (Qab (Qaa (Qac (V:=I6 (hi:Int)) rfl (Qaa (Qac (V:=I6 (lo:Int)) rfl (Qaa (Qa6 (a:=(hi:Int)) (b:=(lo:Int)) (c:=((hi-lo:Nat):Int)) rfl rfl (Qak (by omega) (by omega)) (Qaa (Qad (V:=I6 ((hi-lo:Nat):Int)) rfl (Qaf (Qah (Qah (Qab (Qaa (Qac (V:=I6 ((hi-lo:Nat):Int)) rfl (Qaa (Qa6 (a:=((hi-lo:Nat):Int)) (b:=1) (c:=((hi-lo:Nat):Int)-1) rfl rfl (QbH (by omega) (by omega)) (Qaa (Qbm (V:=I6 (IntKind.i64.wrap ((((hi-lo:Nat):Int)-1).tdiv 2))) (V':=I6 ((((hi-lo)-1)/2:Nat):Int)) (Qjj rfl rfl (by omega) rfl ⟨rfl,rfl⟩) (congrArg (Value.int .i64) (by rw [Qpn];exact Qak rfl (by omega))) (Qaa (Qad (V:=I6 ((((hi-lo)-1)/2:Nat):Int)) rfl (Qaf (Qan (QaA (fun J μ J' w'=>∃ (Jo:Env) (k:Nat) (d1:Array Int),J'=upd (mix ([9]++sq 18 9) Jo J) 9 (I6 ((k:Int)-1))/\(k<=N+1)/\(d1.size=N)/\(Sort.heapPop ltInt lo (hi-lo) (Sort.heapBuild ltInt (hi-lo) lo k d1)=Sort.heapSort ltInt d lo hi)/\μ=2*k/\Own w S w' [row (.slice a N c) (d1.toList.map (ic .u16)) 32 1]) ?_ ?_))))))))))))))))))))))))))))))))))))
 ·exact ⟨_,_,((hi-lo)-1)/2+1,d,Qai (Qap (ds:=([9]++sq 18 9)) (Agr.refl _ _)) (congrArg (Value.int .i64) (by omega)),(by omega),hsz,rfl,rfl,hs⟩
 rintro μ J' w1 ⟨Jo,k,d1,rfl,hk,hz1,hev,rfl,hs⟩
 refine Qah (Qah (Qab (Qaa (Qac (V:=I6 ((k:Int)-1)) rfl (Qaa (Qct rfl rfl (Qaf (Qao (t:=decide (0<=(k:Int)-1)) rfl (fun c2=>?_) (fun c2=>?_)))))))))
 ·
  replace c2:=QQ1 c2
  refine Qaq (Qah (Qan (Qab (Qaa (Qac (V:=.slice a N c) rfl (Qaa (Qbm (V:=I6 ((k:Int)-1)) (V':=I6 ((k-1:Nat):Int)) (Qac (V:=I6 ((k:Int)-1)) rfl ⟨rfl,rfl⟩) (congrArg (Value.int .i64) (by omega)) (Qaa (Qac (V:=I6 ((hi-lo:Nat):Int)) rfl (Qaa (Qac (V:=I6 (lo:Int)) rfl (Qaa (Qbu (vs:=[.slice a N c,I6 ((k-1:Nat):Int),I6 ((hi-lo:Nat):Int),I6 (lo:Int)]) (V:=fun _:Unit=>.tuple #[]) (R:=row (.slice a N c) (d1.toList.map (ic .u16)) 32 1) (R':=fun _=>row (.slice a N c) ((Sort.siftDown ltInt (hi-lo) lo (k-1) d1).toList.map (ic .u16)) 32 1) (Lo:=fun _=>[]) (F:=fun _ _=>(Sort.siftDown ltInt (hi-lo) lo (k-1) d1).size=N) QpH rfl rfl hs 0 rfl (fun S hS hlt=>QmU _ S a N c d1 (by first|assumption|(simp only [QQ5,Go.Sort.size_swp];omega)) hN (k-1) (hi-lo) lo (by omega) (by omega) hS hlt) fun _ w3 hs hz4=>(Qaf (Qab (Qaa (Qac (V:=I6 ((k:Int)-1)) rfl (Qaa (Qa6 (a:=(k:Int)-1) (b:=1) (c:=((k:Int)-1)-1) rfl rfl (QbH (by omega) (by omega)) (Qaa (Qad (V:=I6 (((k:Int)-1)-1)) rfl (Qaf ?_))))))))))))))))))))))
  refine ⟨_,?_,_,k-1,Sort.siftDown ltInt (hi-lo) lo (k-1) d1,Qai (Qap (ds:=([9]++sq 18 9)) (by repeat (first|exact Agr.refl _ _|refine Agr.upd ?_ rfl|refine Agr.mix ?_ rfl))) (congrArg (Value.int .i64) (by omega)),(by omega),(by assumption),(by rw [← hev,QrY (k:=k) (by omega)]),rfl,hs.take 1⟩
  omega
 replace c2:=QQ2 c2
 refine QaG (Qah (Qab (Qaa (Qac (V:=I6 ((hi-lo:Nat):Int)) rfl (Qaa (Qa6 (a:=((hi-lo:Nat):Int)) (b:=1) (c:=((hi-lo:Nat):Int)-1) rfl rfl (QbH (by omega) (by omega)) (Qaa (Qad (V:=I6 (((hi-lo:Nat):Int)-1)) rfl (Qaf (Qan ?_))))))))))
 have hk0:k=0:=by omega
 subst hk0
 have hev1:Sort.heapPop ltInt lo (hi-lo) d1=Sort.heapSort ltInt d lo hi:=hev
 refine QaA (fun J μ J' w'=>∃ (Jo:Env) (q:Nat) (d2:Array Int),J'=upd (mix ([10]++sq 29 27) Jo J) 10 (I6 ((q:Int)-1))/\(q<=hi-lo)/\(d2.size=N)/\(Sort.heapPop ltInt lo q d2=Sort.heapSort ltInt d lo hi)/\μ=2*q/\Own w S w' [row (.slice a N c) (d2.toList.map (ic .u16)) 32 1]) ?_ ?_
 ·exact ⟨_,_,hi-lo,d1,Qai (Qap (ds:=([10]++sq 29 27)) (Agr.refl _ _)) rfl,(Nat.le_refl _),hz1,hev1,rfl,hs⟩
 rintro μ J' w6 ⟨Jo,q,d2,rfl,hk2,hz2,hev2,rfl,hs⟩
 refine Qah (Qah (Qab (Qaa (Qac (V:=I6 ((q:Int)-1)) rfl (Qaa (Qct rfl rfl (Qaf (Qao (t:=decide (0<=(q:Int)-1)) rfl (fun c7=>?_) (fun c7=>?_)))))))))
 ·
  replace c7:=QQ1 c7
  refine Qaq (Qah (Qan (Qah (QaH HM [some 33,some 34,some 35,some 36,some 37,some 38,some 39,some 40,some 41,some 42,some 43,some 44,some 45,some 46,some 47,some 48,some 49,none,some 50,none] [] [0,0,0,0,0,24,0,0,0,384,960,1984,0,0,12288,28672,65475,131011,262143,524287] [pv (.slice a N c),pv (I6 (lo:Int)),pv (.slice a N c),pv (I6 (lo:Int)),pv (I6 ((q-1:Nat):Int)),pv (I6 ((lo+(q-1):Nat):Int)),pv (.slice a N c),pv (I6 (lo:Int)),pv (I6 ((q-1:Nat):Int)),pv (I6 ((lo+(q-1):Nat):Int)),pv (.pointer (some ⟨bkS (.slice a N c),ofS (.slice a N c)+((lo+(q-1):Nat):Int).toNat*1,none⟩)),pv (I7 (d2[lo+(q-1)]!)),pv (.slice a N c),pv (I6 (lo:Int)),pv (.pointer (some ⟨bkS (.slice a N c),ofS (.slice a N c)+(lo:Int).toNat*1,none⟩)),pv (I7 (d2[lo]!)),pv (.pointer (some ⟨bkS (.slice a N c),ofS (.slice a N c)+(lo:Int).toNat*1,none⟩)),pn,pv (.pointer (some ⟨bkS (.slice a N c),ofS (.slice a N c)+((lo+(q-1):Nat):Int).toNat*1,none⟩)),pn] (fun D J=>[cond (D 19) (row (.slice a N c) ((((d2.setIfInBounds lo (d2[lo+(q-1)]!)).setIfInBounds (lo+(q-1)) (d2[lo]!)).toList).map (ic .u16)) 32 1) (cond (D 17) (row (.slice a N c) (((d2.setIfInBounds lo (d2[lo+(q-1)]!)).toList).map (ic .u16)) 32 1) (row (.slice a N c) (d2.toList.map (ic .u16)) 32 1))]) [] (by kernel_rfl) hs ⟨?_,?_,?_,?_,?_,?_,?_,?_,?_,?_,?_,?_,?_,?_,?_,?_,?_,?_,?_,?_,trivial⟩ ?_))))
  ·exact oa [] fun D J w hs=>Qac (V:=.slice a N c) rfl (Zz hs)
  ·exact oa [] fun D J w hs=>Qac (V:=.int .i64 (lo:Int)) rfl (Zz hs)
  ·exact oa [] fun D J w hs=>Qac (V:=.slice a N c) rfl (Zz hs)
  ·exact oa [] fun D J w hs=>Qac (V:=.int .i64 (lo:Int)) rfl (Zz hs)
  ·exact oa [] fun D J w hs=>Qbm (V:=.int .i64 ((q:Int)-1)) (V':=.int .i64 ((q-1:Nat):Int)) (Qac (V:=.int .i64 ((q:Int)-1)) rfl ⟨rfl,rfl⟩) (congrArg (Value.int .i64) (by omega)) (Zz hs)
  ·exact oa [3,4] fun D J w hs=>QaD (a:=(lo:Int)) (b:=((q-1:Nat):Int)) (c:=((lo+(q-1):Nat):Int)) rfl rfl (Qak (by omega) (by omega)) (Zz hs)
  ·exact oa [] fun D J w hs=>Qac (V:=.slice a N c) rfl (Zz hs)
  ·exact oa [] fun D J w hs=>Qac (V:=.int .i64 (lo:Int)) rfl (Zz hs)
  ·exact oa [] fun D J w hs=>Qbm (V:=.int .i64 ((q:Int)-1)) (V':=.int .i64 ((q-1:Nat):Int)) (Qac (V:=.int .i64 ((q:Int)-1)) rfl ⟨rfl,rfl⟩) (congrArg (Value.int .i64) (by omega)) (Zz hs)
  ·exact oa [7,8] fun D J w hs=>QaD (a:=(lo:Int)) (b:=((q-1:Nat):Int)) (c:=((lo+(q-1):Nat):Int)) rfl rfl (Qak (by omega) (by omega)) (Zz hs)
  ·exact ob [6,9] [17,19] rfl rfl fun D J w hs=>Qax QaI Qas.1 (hs.rd 0 rfl) rfl rfl (by omega) (by simp only [QQ6,QQ9,QQ5,Go.Sort.size_swp];omega) (Zz hs)
  ·exact ob [10] [17,19] rfl rfl fun D J w hs=>QaP (j:=0) (V:=I7 (d2[lo+(q-1)]!)) (lo+(q-1)) Qas (hs.rd 0 rfl) (Qbl (by omega)) rfl rfl (by omega) (Zz hs)
  ·exact oa [] fun D J w hs=>Qac (V:=.slice a N c) rfl (Zz hs)
  ·exact oa [] fun D J w hs=>Qac (V:=.int .i64 (lo:Int)) rfl (Zz hs)
  ·exact ob [12,13] [17,19] rfl rfl fun D J w hs=>Qax QaI Qas.1 (hs.rd 0 rfl) rfl rfl (by omega) (by simp only [QQ6,QQ9,QQ5,Go.Sort.size_swp];omega) (Zz hs)
  ·exact ob [14] [17,19] rfl rfl fun D J w hs=>QaP (j:=0) (V:=I7 (d2[lo]!)) lo Qas (hs.rd 0 rfl) (Qbl (by omega)) rfl rfl (by omega) (Zz hs)
  ·exact ob [0,1] [17,19] rfl rfl fun D J w hs=>Qax QaI Qas.1 (hs.rd 0 rfl) rfl rfl (by omega) (by simp only [QQ6,QQ9,QQ5,Go.Sort.size_swp];omega) (Zz hs)
  ·exact ob [11,16] [19] rfl rfl fun D J w hs=>Qce (z:=d2[lo+(q-1)]!) lo Qas hs 0 rfl rfl (by omega) (by first|omega|(simp only [QQ5,Go.Sort.size_swp];omega)) rfl rfl rfl fun _ hs=>⟨trivial,hs⟩
  ·exact ob [2,5,17] [19] rfl rfl fun D J w hs=>Qax QaI Qas.1 (hs.rd 0 rfl) rfl rfl (by omega) (by simp only [QQ6,QQ9,QQ5,Go.Sort.size_swp];omega) (Zz hs)
  ·exact oa [15,17,18] fun D J w hs=>Qce (z:=d2[lo]!) (lo+(q-1)) Qas hs 0 rfl rfl (by omega) (by first|omega|(simp only [QQ5,Go.Sort.size_swp];omega)) rfl rfl rfl fun _ hs=>⟨trivial,hs⟩
  rintro J1 w10 J2 hJ hs
  replace hJ:J2=mix (sq 33 18) J1 _:=hJ
  replace hs:Own w S w10 [row (.slice a N c) ((((d2.setIfInBounds lo (d2[lo+(q-1)]!)).setIfInBounds (lo+(q-1)) (d2[lo]!)).toList).map (ic .u16)) 32 1]:=hs
  subst hJ
  refine Qab (Qaa (Qac (V:=.slice a N c) rfl (Qaa (Qac (V:=I6 0) rfl (Qaa (Qbm (V:=I6 ((q:Int)-1)) (V':=I6 ((q-1:Nat):Int)) (Qac (V:=I6 ((q:Int)-1)) rfl ⟨rfl,rfl⟩) (congrArg (Value.int .i64) (by omega)) (Qaa (Qac (V:=I6 (lo:Int)) rfl (Qaa (Qbu (vs:=[.slice a N c,I6 0,I6 ((q-1:Nat):Int),I6 (lo:Int)]) (V:=fun _:Unit=>.tuple #[]) (R:=row (.slice a N c) (((d2.setIfInBounds lo (d2[lo+(q-1)]!)).setIfInBounds (lo+(q-1)) (d2[lo]!)).toList.map (ic .u16)) 32 1) (R':=fun _=>row (.slice a N c) ((Sort.siftDown ltInt (q-1) lo 0 ((d2.setIfInBounds lo (d2[lo+(q-1)]!)).setIfInBounds (lo+(q-1)) (d2[lo]!))).toList.map (ic .u16)) 32 1) (Lo:=fun _=>[]) (F:=fun _ _=>(Sort.siftDown ltInt (q-1) lo 0 ((d2.setIfInBounds lo (d2[lo+(q-1)]!)).setIfInBounds (lo+(q-1)) (d2[lo]!))).size=N) QpH rfl rfl hs 0 rfl (fun S hS hlt=>QmU _ S a N c ((d2.setIfInBounds lo (d2[lo+(q-1)]!)).setIfInBounds (lo+(q-1)) (d2[lo]!)) (by first|assumption|(simp only [QQ5,Go.Sort.size_swp];omega)) hN 0 (q-1) lo (by omega) (by omega) hS hlt) fun _ w11 hs hz12=>(Qaf (Qab (Qaa (Qac (V:=I6 ((q:Int)-1)) rfl (Qaa (Qa6 (a:=(q:Int)-1) (b:=1) (c:=((q:Int)-1)-1) rfl rfl (QbH (by omega) (by omega)) (Qaa (Qad (V:=I6 (((q:Int)-1)-1)) rfl (Qaf ?_)))))))))))))))))))
  refine ⟨_,?_,_,q-1,Sort.siftDown ltInt (q-1) lo 0 ((d2.setIfInBounds lo (d2[lo+(q-1)]!)).setIfInBounds (lo+(q-1)) (d2[lo]!)),Qai (Qap (ds:=([10]++sq 29 27)) (by repeat (first|exact Agr.refl _ _|refine Agr.upd ?_ rfl|refine Agr.mix ?_ rfl))) (congrArg (Value.int .i64) (by omega)),(by omega),(by assumption),(by rw [← hev2,QqZ (k:=q) (by omega)];rfl),rfl,hs.take 1⟩
  omega
 replace c7:=QQ2 c7
 refine QaG ?_
 refine ⟨_,Qbn Tryz.results173,?_⟩
 have hk3:q=0:=by omega
 subst hk3
 have hX:d2=Sort.heapSort ltInt d lo hi:=hev2
 exact ⟨(),rfl,hX ▸ hs.take 1,hX ▸ (by first|assumption|(simp only [QQ5,Go.Sort.size_swp];omega))⟩
end Tt
end Go.Proofs
namespace Go.Proofs
open Go Go.Vx Go.RowKit
open Go.Sort (ltInt medianAdjacent order2 partition)
namespace Tt
section
variable {d:Array Int} {x y sw:Nat}
theorem Qs6 (h:d[y]!<d[x]!):order2 ltInt d x y sw=(y,x,sw+1):=by unfold order2;rw [if_pos (by simpa [ltInt] using h)]
theorem Qvc (h:¬d[y]!<d[x]!):order2 ltInt d x y sw=(x,y,sw):=by unfold order2;rw [if_neg (by simpa [ltInt] using h)]
theorem QlL {N:Nat} (hx:x<N) (hy:y<N):(order2 ltInt d x y sw).1<N/\(order2 ltInt d x y sw).2.1<N/\(order2 ltInt d x y sw).2.2<=sw+1:=by
 unfold order2;split<;>simp [hx,hy]
end
theorem Qsx {d:Array Int} {N x y z sw:Nat} (hx:x<N) (hy:y<N) (hz:z<N):(Sort.median ltInt d x y z sw).1<N/\(Sort.median ltInt d x y z sw).2<=sw+3:=by
 unfold Sort.median
 have h1:=QlL (d:=d) (sw:=sw) hx hy
 have h2:=QlL (d:=d) (sw:=(order2 ltInt d x y sw).2.2) h1.2.1 hz
 have h3:=QlL (d:=d) (sw:=(order2 ltInt d (order2 ltInt d x y sw).2.1 z (order2 ltInt d x y sw).2.2).2.2) h1.1 h2.1
 exact ⟨h3.2.1,Nat.le_trans h3.2.2 (Nat.succ_le_succ (Nat.le_trans h2.2.2 (Nat.succ_le_succ h1.2.2)))⟩
theorem Qlj {d:Array Int} {N x sw:Nat} (h1:1<=x) (hx:x+1<N):(medianAdjacent ltInt d x sw).1<N/\(medianAdjacent ltInt d x sw).2<=sw+3:=Qsx (by omega) (by omega) (by omega)
theorem QqA (w:World) (S:Nat->Prop) (a:Option Addr) (N c:Nat) (d:Array Int) (hsz:d.size=N) (hN:N<=2305843009213693951) (sb sw:Nat) (hsw:sw<=1000) (hr:Rd w (.slice a N c) 1 (d.toList.map (ic .u16))) (hb:bkS (.slice a N c)<w.heap.size) (hm:¬S (bkS (.slice a N c))) (hR:(blk sb [.int .i64 (sw:Int)] 3).holds w S) (hlt:∀ x,S x->x<w.heap.size) (x y:Nat) (hx:x<N) (hy:y<N):Calls Tryz.prog 189 #[.slice a N c,.int .i64 (x:Int),.int .i64 (y:Int),.pointer (some ⟨sb,0,none⟩)] w (fun e w'=>∃ _u:Unit,e = .returned (.tuple #[.int .i64 (((order2 ltInt d x y sw).1:Nat):Int),.int .i64 (((order2 ltInt d x y sw).2.1:Nat):Int)])/\Own w S w' [blk sb [.int .i64 (((order2 ltInt d x y sw).2.2:Nat):Int)] 3]/\True):=by
 refine Qaj (n:=28) Tryz.func189 rfl Tryz.ntmps189 rfl ?_
 have hs:=Own.lent hR hlt
 refine Qah (Qab (Qaa (Qad (V:=I6 0) rfl (Qaa (Qad (V:=I6 0) rfl (Qaf (Qah (Qah (QaH HM [some 10,some 11,some 12,some 13,some 14,some 15,some 16,some 17,some 18] [] [0,0,3,7,0,0,48,112,255] [pv (.slice a N c),pv (I6 (y:Int)),pv (.pointer (some ⟨bkS (.slice a N c),ofS (.slice a N c)+(y:Int).toNat*1,none⟩)),pv (I7 (d[y]!)),pv (.slice a N c),pv (I6 (x:Int)),pv (.pointer (some ⟨bkS (.slice a N c),ofS (.slice a N c)+(x:Int).toNat*1,none⟩)),pv (I7 (d[x]!)),pv (.bool (decide (d[y]!<d[x]!)))] (fun _ _=>_) [8] (by kernel_rfl) hs ⟨?_,?_,?_,?_,?_,?_,?_,?_,?_,trivial⟩ ?_)))))))))
 ·exact oa [] fun D J w hs=>Qac (V:=.slice a N c) rfl (Zz hs)
 ·exact oa [] fun D J w hs=>Qac (V:=.int .i64 (y:Int)) rfl (Zz hs)
 ·exact oa [0,1] fun D J w hs=>Qax QaI Qas.1 (Rd.ownS hm hr hs) rfl rfl (by omega) (by simp only [QQ6,QQ9,QQ5,Go.Sort.size_swp];omega) (Zz hs)
 ·exact oa [2] fun D J w hs=>QaP (j:=0) (V:=.int .u16 (d[y]!)) y Qas (Rd.ownS hm hr hs) (Qbl (by omega)) rfl rfl (by omega) (Zz hs)
 ·exact oa [] fun D J w hs=>Qac (V:=.slice a N c) rfl (Zz hs)
 ·exact oa [] fun D J w hs=>Qac (V:=.int .i64 (x:Int)) rfl (Zz hs)
 ·exact oa [4,5] fun D J w hs=>Qax QaI Qas.1 (Rd.ownS hm hr hs) rfl rfl (by omega) (by simp only [QQ6,QQ9,QQ5,Go.Sort.size_swp];omega) (Zz hs)
 ·exact oa [6] fun D J w hs=>QaP (j:=0) (V:=.int .u16 (d[x]!)) x Qas (Rd.ownS hm hr hs) (Qbl (by omega)) rfl rfl (by omega) (Zz hs)
 ·exact oa [3,7] fun D J w hs=>Qat (vs:=[.int .u16 (d[y]!),.int .u16 (d[x]!)]) (V:=.bool (decide (d[y]!<d[x]!))) Qc0 rfl rfl (Qcj _ (d[y]!) (d[x]!)) hs fun _ hs=>Zz hs
 rintro J1 w2 J2 hJ hs
 replace hJ:J2=upd (mix (sq 10 9) J1 _) 18 (.bool (decide (d[y]!<d[x]!))):=hJ
 subst hJ
 refine Qao (t:=decide (d[y]!<d[x]!)) rfl (fun c3=>?_) (fun c3=>?_)
 ·
  replace c3:=QQ1 c3
  refine Qah (Qab (Qaa (Qac (V:=Pq sb 0) rfl (Qaa (QgZ rfl (Qaa (QaE (V:=I6 (sw:Int)) QqP hs 0 rfl rfl rfl (Qaa (QaD (a:=(sw:Int)) (b:=1) (c:=((sw+1:Nat):Int)) rfl rfl (Qak (by omega) (by omega)) (Qaa (QgZ rfl (Qaa (Qc2 (V:=I6 ((sw+1:Nat):Int)) (cs':=[I6 ((sw+1:Nat):Int)]) QqP hs 0 rfl rfl rfl rfl (QQ8 rfl) rfl fun w4 hs=>(Qaf (Qah (Qab (Qaa (Qac (V:=I6 (y:Int)) rfl (Qaa (Qac (V:=I6 (x:Int)) rfl (Qaa (Qad (V:=I6 (y:Int)) rfl (Qaa (Qad (V:=I6 (x:Int)) rfl (Qaf (Qav ?_))))))))))))))))))))))))))
  refine ⟨_,Qbq (U:=I6 (y:Int)) (V:=I6 (x:Int)) Tryz.results189 rfl rfl,?_⟩
  rw [Qs6 c3]
  exact ⟨(),rfl,hs.take 1,trivial⟩
 replace c3:=QQ2 c3
 refine Qaq (Qah (Qab (Qaa (Qac (V:=I6 (x:Int)) rfl (Qaa (Qac (V:=I6 (y:Int)) rfl (Qaa (Qad (V:=I6 (x:Int)) rfl (Qaa (Qad (V:=I6 (y:Int)) rfl (Qaf (Qav ?_))))))))))))
 refine ⟨_,Qbq (U:=I6 (x:Int)) (V:=I6 (y:Int)) Tryz.results189 rfl rfl,?_⟩
 rw [Qvc c3]
 exact ⟨(),rfl,hs.take 1,trivial⟩
theorem Ql4 (w:World) (S:Nat->Prop) (a:Option Addr) (N c:Nat) (d:Array Int) (hsz:d.size=N) (hN:N<=2305843009213693951) (sb sw:Nat) (hsw:sw<=900) (hr:Rd w (.slice a N c) 1 (d.toList.map (ic .u16))) (hb:bkS (.slice a N c)<w.heap.size) (hm:¬S (bkS (.slice a N c))) (hR:(blk sb [.int .i64 (sw:Int)] 3).holds w S) (hlt:∀ x,S x->x<w.heap.size) (x y z:Nat) (hx:x<N) (hy:y<N) (hz:z<N):Calls Tryz.prog 187 #[.slice a N c,.int .i64 (x:Int),.int .i64 (y:Int),.int .i64 (z:Int),.pointer (some ⟨sb,0,none⟩)] w (fun e w'=>∃ _u:Unit,e = .returned (.int .i64 (((Sort.median ltInt d x y z sw).1:Nat):Int))/\Own w S w' [blk sb [.int .i64 (((Sort.median ltInt d x y z sw).2:Nat):Int)] 3]/\True):=by
 refine Qaj (n:=36) Tryz.func187 rfl Tryz.ntmps187 rfl ?_
 have hs:=Own.lent hR hlt
 refine Qah (Qab (Qaa (Qad (V:=I6 0) rfl (Qaf (Qah (Qab (Qaa (Qac (V:=.slice a N c) rfl (Qaa (Qac (V:=I6 (x:Int)) rfl (Qaa (Qac (V:=I6 (y:Int)) rfl (Qaa (Qac (V:=Pq sb 0) rfl (Qaa (QcV (vs:=[.slice a N c,I6 (x:Int),I6 (y:Int),Pq sb 0]) (V:=fun _:Unit=>.tuple #[I6 (((order2 ltInt d x y sw).1:Nat):Int),I6 (((order2 ltInt d x y sw).2.1:Nat):Int)]) (R:=blk sb [I6 (sw:Int)] 3) (R':=fun _=>blk sb [I6 (((order2 ltInt d x y sw).2.2:Nat):Int)] 3) (Lo:=fun _=>[]) (F:=fun _ _=>True) Qni rfl rfl hs 0 rfl (fun S hS hlt hSM=>QqA _ S a N c d hsz hN sb sw (by omega) (Rd.ownS hm hr hs) (Nat.lt_of_lt_of_le hb hs.size) (fun h=>hm (hSM _ h hb)) hS hlt x y (by omega) (by omega)) fun _ w1 hs _=>(Qaa (Qac (V:=.tuple #[I6 (((order2 ltInt d x y sw).1:Nat):Int),I6 (((order2 ltInt d x y sw).2.1:Nat):Int)]) rfl (Qaa (Qay (V:=I6 (((order2 ltInt d x y sw).1:Nat):Int)) rfl rfl (Qaa (Qay (V:=I6 (((order2 ltInt d x y sw).2.1:Nat):Int)) rfl rfl (Qaa (Qad (V:=I6 (((order2 ltInt d x y sw).1:Nat):Int)) rfl (Qaa (Qad (V:=I6 (((order2 ltInt d x y sw).2.1:Nat):Int)) rfl (Qaf (Qah ?_))))))))))))))))))))))))))))
 have hq1:=QlL (d:=d) (sw:=sw) hx hy
 refine Qab (Qaa (Qac (V:=.slice a N c) rfl (Qaa (Qac (V:=I6 (((order2 ltInt d x y sw).2.1:Nat):Int)) rfl (Qaa (Qac (V:=I6 (z:Int)) rfl (Qaa (Qac (V:=Pq sb 0) rfl (Qaa (QcV (vs:=[.slice a N c,I6 (((order2 ltInt d x y sw).2.1:Nat):Int),I6 (z:Int),Pq sb 0]) (V:=fun _:Unit=>.tuple #[I6 (((order2 ltInt d ((order2 ltInt d x y sw).2.1) z ((order2 ltInt d x y sw).2.2)).1:Nat):Int),I6 (((order2 ltInt d ((order2 ltInt d x y sw).2.1) z ((order2 ltInt d x y sw).2.2)).2.1:Nat):Int)]) (R:=blk sb [I6 (((order2 ltInt d x y sw).2.2:Nat):Int)] 3) (R':=fun _=>blk sb [I6 (((order2 ltInt d ((order2 ltInt d x y sw).2.1) z ((order2 ltInt d x y sw).2.2)).2.2:Nat):Int)] 3) (Lo:=fun _=>[]) (F:=fun _ _=>True) Qni rfl rfl hs 0 rfl (fun S hS hlt hSM=>QqA _ S a N c d hsz hN sb ((order2 ltInt d x y sw).2.2) (by omega) (Rd.ownS hm hr hs) (Nat.lt_of_lt_of_le hb hs.size) (fun h=>hm (hSM _ h hb)) hS hlt ((order2 ltInt d x y sw).2.1) z (by omega) (by omega)) fun _ w2 hs _=>(Qaa (Qac (V:=.tuple #[I6 (((order2 ltInt d ((order2 ltInt d x y sw).2.1) z ((order2 ltInt d x y sw).2.2)).1:Nat):Int),I6 (((order2 ltInt d ((order2 ltInt d x y sw).2.1) z ((order2 ltInt d x y sw).2.2)).2.1:Nat):Int)]) rfl (Qaa (Qay (V:=I6 (((order2 ltInt d ((order2 ltInt d x y sw).2.1) z ((order2 ltInt d x y sw).2.2)).1:Nat):Int)) rfl rfl (Qaa (Qay (V:=I6 (((order2 ltInt d ((order2 ltInt d x y sw).2.1) z ((order2 ltInt d x y sw).2.2)).2.1:Nat):Int)) rfl rfl (Qaa (Qad (V:=I6 (((order2 ltInt d ((order2 ltInt d x y sw).2.1) z ((order2 ltInt d x y sw).2.2)).1:Nat):Int)) rfl (Qaa (Qad (V:=I6 (((order2 ltInt d ((order2 ltInt d x y sw).2.1) z ((order2 ltInt d x y sw).2.2)).2.1:Nat):Int)) rfl (Qaf (Qah ?_))))))))))))))))))))))
 have hq2:=QlL (d:=d) (sw:=(order2 ltInt d x y sw).2.2) hq1.2.1 hz
 refine Qab (Qaa (Qac (V:=.slice a N c) rfl (Qaa (Qac (V:=I6 (((order2 ltInt d x y sw).1:Nat):Int)) rfl (Qaa (Qac (V:=I6 (((order2 ltInt d ((order2 ltInt d x y sw).2.1) z ((order2 ltInt d x y sw).2.2)).1:Nat):Int)) rfl (Qaa (Qac (V:=Pq sb 0) rfl (Qaa (QcV (vs:=[.slice a N c,I6 (((order2 ltInt d x y sw).1:Nat):Int),I6 (((order2 ltInt d ((order2 ltInt d x y sw).2.1) z ((order2 ltInt d x y sw).2.2)).1:Nat):Int),Pq sb 0]) (V:=fun _:Unit=>.tuple #[I6 (((order2 ltInt d ((order2 ltInt d x y sw).1) ((order2 ltInt d ((order2 ltInt d x y sw).2.1) z ((order2 ltInt d x y sw).2.2)).1) ((order2 ltInt d ((order2 ltInt d x y sw).2.1) z ((order2 ltInt d x y sw).2.2)).2.2)).1:Nat):Int),I6 (((order2 ltInt d ((order2 ltInt d x y sw).1) ((order2 ltInt d ((order2 ltInt d x y sw).2.1) z ((order2 ltInt d x y sw).2.2)).1) ((order2 ltInt d ((order2 ltInt d x y sw).2.1) z ((order2 ltInt d x y sw).2.2)).2.2)).2.1:Nat):Int)]) (R:=blk sb [I6 (((order2 ltInt d ((order2 ltInt d x y sw).2.1) z ((order2 ltInt d x y sw).2.2)).2.2:Nat):Int)] 3) (R':=fun _=>blk sb [I6 (((order2 ltInt d ((order2 ltInt d x y sw).1) ((order2 ltInt d ((order2 ltInt d x y sw).2.1) z ((order2 ltInt d x y sw).2.2)).1) ((order2 ltInt d ((order2 ltInt d x y sw).2.1) z ((order2 ltInt d x y sw).2.2)).2.2)).2.2:Nat):Int)] 3) (Lo:=fun _=>[]) (F:=fun _ _=>True) Qni rfl rfl hs 0 rfl (fun S hS hlt hSM=>QqA _ S a N c d hsz hN sb ((order2 ltInt d ((order2 ltInt d x y sw).2.1) z ((order2 ltInt d x y sw).2.2)).2.2) (by omega) (Rd.ownS hm hr hs) (Nat.lt_of_lt_of_le hb hs.size) (fun h=>hm (hSM _ h hb)) hS hlt ((order2 ltInt d x y sw).1) ((order2 ltInt d ((order2 ltInt d x y sw).2.1) z ((order2 ltInt d x y sw).2.2)).1) (by omega) (by omega)) fun _ w3 hs _=>(Qaa (Qac (V:=.tuple #[I6 (((order2 ltInt d ((order2 ltInt d x y sw).1) ((order2 ltInt d ((order2 ltInt d x y sw).2.1) z ((order2 ltInt d x y sw).2.2)).1) ((order2 ltInt d ((order2 ltInt d x y sw).2.1) z ((order2 ltInt d x y sw).2.2)).2.2)).1:Nat):Int),I6 (((order2 ltInt d ((order2 ltInt d x y sw).1) ((order2 ltInt d ((order2 ltInt d x y sw).2.1) z ((order2 ltInt d x y sw).2.2)).1) ((order2 ltInt d ((order2 ltInt d x y sw).2.1) z ((order2 ltInt d x y sw).2.2)).2.2)).2.1:Nat):Int)]) rfl (Qaa (Qay (V:=I6 (((order2 ltInt d ((order2 ltInt d x y sw).1) ((order2 ltInt d ((order2 ltInt d x y sw).2.1) z ((order2 ltInt d x y sw).2.2)).1) ((order2 ltInt d ((order2 ltInt d x y sw).2.1) z ((order2 ltInt d x y sw).2.2)).2.2)).1:Nat):Int)) rfl rfl (Qaa (Qay (V:=I6 (((order2 ltInt d ((order2 ltInt d x y sw).1) ((order2 ltInt d ((order2 ltInt d x y sw).2.1) z ((order2 ltInt d x y sw).2.2)).1) ((order2 ltInt d ((order2 ltInt d x y sw).2.1) z ((order2 ltInt d x y sw).2.2)).2.2)).2.1:Nat):Int)) rfl rfl (Qaa (Qad (V:=I6 (((order2 ltInt d ((order2 ltInt d x y sw).1) ((order2 ltInt d ((order2 ltInt d x y sw).2.1) z ((order2 ltInt d x y sw).2.2)).1) ((order2 ltInt d ((order2 ltInt d x y sw).2.1) z ((order2 ltInt d x y sw).2.2)).2.2)).1:Nat):Int)) rfl (Qaa (Qad (V:=I6 (((order2 ltInt d ((order2 ltInt d x y sw).1) ((order2 ltInt d ((order2 ltInt d x y sw).2.1) z ((order2 ltInt d x y sw).2.2)).1) ((order2 ltInt d ((order2 ltInt d x y sw).2.1) z ((order2 ltInt d x y sw).2.2)).2.2)).2.1:Nat):Int)) rfl (Qaf (Qah (Qab (Qaa (Qac (V:=I6 (((order2 ltInt d ((order2 ltInt d x y sw).1) ((order2 ltInt d ((order2 ltInt d x y sw).2.1) z ((order2 ltInt d x y sw).2.2)).1) ((order2 ltInt d ((order2 ltInt d x y sw).2.1) z ((order2 ltInt d x y sw).2.2)).2.2)).2.1:Nat):Int)) rfl (Qaa (Qad (V:=I6 (((order2 ltInt d ((order2 ltInt d x y sw).1) ((order2 ltInt d ((order2 ltInt d x y sw).2.1) z ((order2 ltInt d x y sw).2.2)).1) ((order2 ltInt d ((order2 ltInt d x y sw).2.1) z ((order2 ltInt d x y sw).2.2)).2.2)).2.1:Nat):Int)) rfl (Qaf (Qav ?_)))))))))))))))))))))))))))))
 refine ⟨_,Qar (V:=I6 (((order2 ltInt d ((order2 ltInt d x y sw).1) ((order2 ltInt d ((order2 ltInt d x y sw).2.1) z ((order2 ltInt d x y sw).2.2)).1) ((order2 ltInt d ((order2 ltInt d x y sw).2.1) z ((order2 ltInt d x y sw).2.2)).2.2)).2.1:Nat):Int)) Tryz.results187 rfl,?_⟩
 exact ⟨(),rfl,hs.take 1,trivial⟩
theorem QmS (w:World) (S:Nat->Prop) (a:Option Addr) (N c:Nat) (d:Array Int) (hsz:d.size=N) (hN:N<=2305843009213693951) (sb sw:Nat) (hsw:sw<=900) (hr:Rd w (.slice a N c) 1 (d.toList.map (ic .u16))) (hb:bkS (.slice a N c)<w.heap.size) (hm:¬S (bkS (.slice a N c))) (hR:(blk sb [.int .i64 (sw:Int)] 3).holds w S) (hlt:∀ x,S x->x<w.heap.size) (x:Nat) (hx:1<=x) (hy:x+1<N):Calls Tryz.prog 186 #[.slice a N c,.int .i64 (x:Int),.pointer (some ⟨sb,0,none⟩)] w (fun e w'=>∃ _u:Unit,e = .returned (.int .i64 (((medianAdjacent ltInt d x sw).1:Nat):Int))/\Own w S w' [blk sb [.int .i64 (((medianAdjacent ltInt d x sw).2:Nat):Int)] 3]/\True):=by
 refine Qaj (n:=15) Tryz.func186 rfl Tryz.ntmps186 rfl ?_
 have hs:=Own.lent hR hlt
 refine Qah (Qab (Qaa (Qad (V:=I6 0) rfl (Qaf (Qah (Qab (Qaa (Qac (V:=.slice a N c) rfl (Qaa (Qac (V:=I6 (x:Int)) rfl (Qaa (Qa6 (a:=(x:Int)) (b:=1) (c:=((x-1:Nat):Int)) rfl rfl (Qak (by omega) (by omega)) (Qaa (Qac (V:=I6 (x:Int)) rfl (Qaa (Qac (V:=I6 (x:Int)) rfl (Qaa (QaD (a:=(x:Int)) (b:=1) (c:=((x+1:Nat):Int)) rfl rfl (Qak (by omega) (by omega)) (Qaa (Qac (V:=Pq sb 0) rfl (Qaa (QcV (vs:=[.slice a N c,I6 ((x-1:Nat):Int),I6 (x:Int),I6 ((x+1:Nat):Int),Pq sb 0]) (V:=fun _:Unit=>I6 (((Sort.median ltInt d (x-1) x (x+1) sw).1:Nat):Int)) (R:=blk sb [I6 (sw:Int)] 3) (R':=fun _=>blk sb [I6 (((Sort.median ltInt d (x-1) x (x+1) sw).2:Nat):Int)] 3) (Lo:=fun _=>[]) (F:=fun _ _=>True) Qlm rfl rfl hs 0 rfl (fun S hS hlt hSM=>Ql4 _ S a N c d hsz hN sb sw (by omega) (Rd.ownS hm hr hs) (Nat.lt_of_lt_of_le hb hs.size) (fun h=>hm (hSM _ h hb)) hS hlt (x-1) x (x+1) (by omega) (by omega) (by omega)) fun _ w1 hs _=>(Qaa (Qad (V:=I6 (((Sort.median ltInt d (x-1) x (x+1) sw).1:Nat):Int)) rfl (Qaf (Qav ?_))))))))))))))))))))))))))
 refine ⟨_,Qar (V:=I6 (((Sort.median ltInt d (x-1) x (x+1) sw).1:Nat):Int)) Tryz.results186 rfl,?_⟩
 exact ⟨(),rfl,hs.take 1,trivial⟩
end Tt
end Go.Proofs
namespace Go.Proofs
open Go Go.Vx Go.RowKit
open Go.Sort (ltInt medianAdjacent order2 partition)
namespace Tt
def Qcs:Sort.Hint->Int
 | .unknown=>0
 | .increasing=>1
 | .decreasing=>2
def cpR (d:Array Int) (lo hi:Nat):Nat × Nat:=if hi-lo ≥ 8 then (if hi-lo ≥ 50 then Sort.median ltInt d (medianAdjacent ltInt d (lo+((hi-lo)/4)*1) (0)).1 (medianAdjacent ltInt d (lo+((hi-lo)/4)*2) ((medianAdjacent ltInt d (lo+((hi-lo)/4)*1) (0)).2)).1 (medianAdjacent ltInt d (lo+((hi-lo)/4)*3) ((medianAdjacent ltInt d (lo+((hi-lo)/4)*2) ((medianAdjacent ltInt d (lo+((hi-lo)/4)*1) (0)).2)).2)).1 (medianAdjacent ltInt d (lo+((hi-lo)/4)*3) ((medianAdjacent ltInt d (lo+((hi-lo)/4)*2) ((medianAdjacent ltInt d (lo+((hi-lo)/4)*1) (0)).2)).2)).2 else Sort.median ltInt d (lo+((hi-lo)/4)*1) (lo+((hi-lo)/4)*2) (lo+((hi-lo)/4)*3) 0) else (lo+((hi-lo)/4)*2,0)
theorem Qu1 (d:Array Int) (lo hi:Nat):Sort.choosePivot ltInt d lo hi=((cpR d lo hi).1,if (cpR d lo hi).2=0 then .increasing else if (cpR d lo hi).2=12 then .decreasing else .unknown):=rfl
theorem Qi7 {d:Array Int} {lo hi:Nat} {X:Nat × Nat} {h:Sort.Hint} (hR:cpR d lo hi=X) (hh:(if X.2=0 then Sort.Hint.increasing else if X.2=12 then .decreasing else .unknown)=h):Sort.choosePivot ltInt d lo hi=(X.1,h):=by
 rw [Qu1,hR,hh]
theorem QtK (w:World) (a:Option Addr) (N c:Nat) (d:Array Int) (hsz:d.size=N) (hN:N<=2305843009213693951) (hr:Rd w (.slice a N c) 1 (d.toList.map (ic .u16))) (lo hi:Nat) (h1:lo<hi) (h2:hi<=N):Calls Tryz.prog 175 #[.slice a N c,.int .i64 (lo:Int),.int .i64 (hi:Int)] w (fun e w'=>e = .returned (.tuple #[.int .i64 (((Sort.choosePivot ltInt d lo hi).1:Nat):Int),.int .i64 (Qcs (Sort.choosePivot ltInt d lo hi).2)])/\Own w no w' []):=by
 refine Qaj (n:=57) Tryz.func175 rfl Tryz.ntmps175 rfl ?_
 have hs:=Own.start w
 have hb:bkS (.slice a N c)<w.heap.size:=hr.bk_lt (by simp only [QQ6,QQ9];omega)
 refine Qah (Qab (Qaa (Qad (V:=I6 0) rfl (Qaa (Qad (V:=I6 0) rfl (Qaf (Qah (Qab (Qaa (Qac (V:=I6 (hi:Int)) rfl (Qaa (Qac (V:=I6 (lo:Int)) rfl (Qaa (Qa6 (a:=(hi:Int)) (b:=(lo:Int)) (c:=((hi-lo:Nat):Int)) rfl rfl (Qak (by omega) (by omega)) (Qaa (Qad (V:=I6 ((hi-lo:Nat):Int)) rfl (Qaf (Qah (Qab (Qaa (QaM (cs:=[I6 0]) Qv8 rfl hs fun b1 w2 hs=>(Qaf (Qah (Qab (Qaa (Qac (V:=I6 (lo:Int)) rfl (Qaa (Qac (V:=I6 ((hi-lo:Nat):Int)) rfl (Qaa (Qjj (a:=((hi-lo:Nat):Int)) (b:=4) (c:=(((hi-lo)/4:Nat):Int)) rfl rfl (by decide) (Qak rfl (by omega)) (Qaa (QgM (a:=(((hi-lo)/4:Nat):Int)) (b:=1) (c:=((((hi-lo)/4)*1:Nat):Int)) rfl rfl (Qak (by omega) (by omega)) (Qaa (QaD (a:=(lo:Int)) (b:=((((hi-lo)/4)*1:Nat):Int)) (c:=((lo+(((hi-lo)/4)*1):Nat):Int)) rfl rfl (Qak (by omega) (by omega)) (Qaa (Qad (V:=I6 ((lo+(((hi-lo)/4)*1):Nat):Int)) rfl (Qaf (Qah (Qab (Qaa (Qac (V:=I6 (lo:Int)) rfl (Qaa (Qac (V:=I6 ((hi-lo:Nat):Int)) rfl (Qaa (Qjj (a:=((hi-lo:Nat):Int)) (b:=4) (c:=(((hi-lo)/4:Nat):Int)) rfl rfl (by decide) (Qak rfl (by omega)) (Qaa (QgM (a:=(((hi-lo)/4:Nat):Int)) (b:=2) (c:=((((hi-lo)/4)*2:Nat):Int)) rfl rfl (Qak (by omega) (by omega)) (Qaa (QaD (a:=(lo:Int)) (b:=((((hi-lo)/4)*2:Nat):Int)) (c:=((lo+(((hi-lo)/4)*2):Nat):Int)) rfl rfl (Qak (by omega) (by omega)) (Qaa (Qad (V:=I6 ((lo+(((hi-lo)/4)*2):Nat):Int)) rfl (Qaf (Qah (Qab (Qaa (Qac (V:=I6 (lo:Int)) rfl (Qaa (Qac (V:=I6 ((hi-lo:Nat):Int)) rfl (Qaa (Qjj (a:=((hi-lo:Nat):Int)) (b:=4) (c:=(((hi-lo)/4:Nat):Int)) rfl rfl (by decide) (Qak rfl (by omega)) (Qaa (QgM (a:=(((hi-lo)/4:Nat):Int)) (b:=3) (c:=((((hi-lo)/4)*3:Nat):Int)) rfl rfl (Qak (by omega) (by omega)) (Qaa (QaD (a:=(lo:Int)) (b:=((((hi-lo)/4)*3:Nat):Int)) (c:=((lo+(((hi-lo)/4)*3):Nat):Int)) rfl rfl (Qak (by omega) (by omega)) ?_))))))))))))))))))))))))))))))))))))))))))))))))))))))))))))))))
 refine Qaa (Qad (V:=I6 ((lo+(((hi-lo)/4)*3):Nat):Int)) rfl (Qaf (Qah (Qah (Qab (Qaa (Qac (V:=I6 ((hi-lo:Nat):Int)) rfl (Qaa (Qct rfl rfl (Qaf (Qao (t:=decide (8<=((hi-lo:Nat):Int))) rfl (fun c3=>?_) (fun c3=>?_))))))))))))
 ·
  replace c3:=QQ1 c3
  refine Qah (Qah (Qab (Qaa (Qac (V:=I6 ((hi-lo:Nat):Int)) rfl (Qaa (Qct rfl rfl (Qaf (Qao (t:=decide (50<=((hi-lo:Nat):Int))) rfl (fun c4=>?_) (fun c4=>?_)))))))))
  ·
   replace c4:=QQ1 c4
   refine Qah (Qab (Qaa (Qac (V:=.slice a N c) rfl (Qaa (Qac (V:=I6 ((lo+(((hi-lo)/4)*1):Nat):Int)) rfl (Qaa (QcV (vs:=[.slice a N c,I6 ((lo+(((hi-lo)/4)*1):Nat):Int),Pq b1 0]) (V:=fun _:Unit=>I6 (((medianAdjacent ltInt d (lo+(((hi-lo)/4)*1)) 0).1:Nat):Int)) (R:=blk b1 [I6 (0:Int)] 3) (R':=fun _=>blk b1 [I6 (((medianAdjacent ltInt d (lo+(((hi-lo)/4)*1)) 0).2:Nat):Int)] 3) (Lo:=fun _=>[]) (F:=fun _ _=>True) QlO rfl rfl hs 0 rfl (fun S hS hlt hSM=>QmS _ S a N c d hsz hN b1 0 (by omega) (Rd.own' hr hs) (Nat.lt_of_lt_of_le hb hs.size) (fun h=>hSM _ h hb) hS hlt (lo+(((hi-lo)/4)*1)) (by omega) (by omega)) fun _ w5 hs _=>(Qaa (Qad (V:=I6 (((medianAdjacent ltInt d (lo+(((hi-lo)/4)*1)) 0).1:Nat):Int)) rfl (Qaf (Qah ?_)))))))))))
   have hq1:=Qlj (d:=d) (sw:=0) (N:=N) (x:=lo+((hi-lo)/4)*1) (by omega) (by omega)
   refine Qab (Qaa (Qac (V:=.slice a N c) rfl (Qaa (Qac (V:=I6 ((lo+(((hi-lo)/4)*2):Nat):Int)) rfl (Qaa (QcV (vs:=[.slice a N c,I6 ((lo+(((hi-lo)/4)*2):Nat):Int),Pq b1 0]) (V:=fun _:Unit=>I6 (((medianAdjacent ltInt d (lo+(((hi-lo)/4)*2)) ((medianAdjacent ltInt d (lo+(((hi-lo)/4)*1)) 0).2)).1:Nat):Int)) (R:=blk b1 [I6 (((medianAdjacent ltInt d (lo+(((hi-lo)/4)*1)) 0).2:Nat):Int)] 3) (R':=fun _=>blk b1 [I6 (((medianAdjacent ltInt d (lo+(((hi-lo)/4)*2)) ((medianAdjacent ltInt d (lo+(((hi-lo)/4)*1)) 0).2)).2:Nat):Int)] 3) (Lo:=fun _=>[]) (F:=fun _ _=>True) QlO rfl rfl hs 0 rfl (fun S hS hlt hSM=>QmS _ S a N c d hsz hN b1 ((medianAdjacent ltInt d (lo+(((hi-lo)/4)*1)) 0).2) (by omega) (Rd.own' hr hs) (Nat.lt_of_lt_of_le hb hs.size) (fun h=>hSM _ h hb) hS hlt (lo+(((hi-lo)/4)*2)) (by omega) (by omega)) fun _ w6 hs _=>(Qaa (Qad (V:=I6 (((medianAdjacent ltInt d (lo+(((hi-lo)/4)*2)) ((medianAdjacent ltInt d (lo+(((hi-lo)/4)*1)) 0).2)).1:Nat):Int)) rfl (Qaf ?_)))))))))
   have hq2:=Qlj (d:=d) (sw:=(medianAdjacent ltInt d (lo+((hi-lo)/4)*1) (0)).2) (N:=N) (x:=lo+((hi-lo)/4)*2) (by omega) (by omega)
   refine Qab (Qaa (Qac (V:=.slice a N c) rfl (Qaa (Qac (V:=I6 ((lo+(((hi-lo)/4)*3):Nat):Int)) rfl (Qaa (QcV (vs:=[.slice a N c,I6 ((lo+(((hi-lo)/4)*3):Nat):Int),Pq b1 0]) (V:=fun _:Unit=>I6 (((medianAdjacent ltInt d (lo+(((hi-lo)/4)*3)) ((medianAdjacent ltInt d (lo+(((hi-lo)/4)*2)) ((medianAdjacent ltInt d (lo+(((hi-lo)/4)*1)) 0).2)).2)).1:Nat):Int)) (R:=blk b1 [I6 (((medianAdjacent ltInt d (lo+(((hi-lo)/4)*2)) ((medianAdjacent ltInt d (lo+(((hi-lo)/4)*1)) 0).2)).2:Nat):Int)] 3) (R':=fun _=>blk b1 [I6 (((medianAdjacent ltInt d (lo+(((hi-lo)/4)*3)) ((medianAdjacent ltInt d (lo+(((hi-lo)/4)*2)) ((medianAdjacent ltInt d (lo+(((hi-lo)/4)*1)) 0).2)).2)).2:Nat):Int)] 3) (Lo:=fun _=>[]) (F:=fun _ _=>True) QlO rfl rfl hs 0 rfl (fun S hS hlt hSM=>QmS _ S a N c d hsz hN b1 ((medianAdjacent ltInt d (lo+(((hi-lo)/4)*2)) ((medianAdjacent ltInt d (lo+(((hi-lo)/4)*1)) 0).2)).2) (by omega) (Rd.own' hr hs) (Nat.lt_of_lt_of_le hb hs.size) (fun h=>hSM _ h hb) hS hlt (lo+(((hi-lo)/4)*3)) (by omega) (by omega)) fun _ w7 hs _=>?_))))))
   replace hs:Own w no w7 [blk b1 [I6 (((medianAdjacent ltInt d (lo+(((hi-lo)/4)*3)) ((medianAdjacent ltInt d (lo+(((hi-lo)/4)*2)) ((medianAdjacent ltInt d (lo+(((hi-lo)/4)*1)) 0).2)).2)).2:Nat):Int)] 3]:=hs
   refine Qaa (Qad (V:=I6 (((medianAdjacent ltInt d (lo+(((hi-lo)/4)*3)) ((medianAdjacent ltInt d (lo+(((hi-lo)/4)*2)) ((medianAdjacent ltInt d (lo+(((hi-lo)/4)*1)) 0).2)).2)).1:Nat):Int)) rfl (Qaf ?_))
   have hq3:=Qlj (d:=d) (sw:=(medianAdjacent ltInt d (lo+((hi-lo)/4)*2) ((medianAdjacent ltInt d (lo+((hi-lo)/4)*1) (0)).2)).2) (N:=N) (x:=lo+((hi-lo)/4)*3) (by omega) (by omega)
   refine Qab (Qaa (Qac (V:=.slice a N c) rfl (Qaa (Qac (V:=I6 (((medianAdjacent ltInt d (lo+(((hi-lo)/4)*1)) 0).1:Nat):Int)) rfl (Qaa (Qac (V:=I6 (((medianAdjacent ltInt d (lo+(((hi-lo)/4)*2)) ((medianAdjacent ltInt d (lo+(((hi-lo)/4)*1)) 0).2)).1:Nat):Int)) rfl (Qaa (Qac (V:=I6 (((medianAdjacent ltInt d (lo+(((hi-lo)/4)*3)) ((medianAdjacent ltInt d (lo+(((hi-lo)/4)*2)) ((medianAdjacent ltInt d (lo+(((hi-lo)/4)*1)) 0).2)).2)).1:Nat):Int)) rfl (Qaa (QcV (vs:=[.slice a N c,I6 (((medianAdjacent ltInt d (lo+(((hi-lo)/4)*1)) 0).1:Nat):Int),I6 (((medianAdjacent ltInt d (lo+(((hi-lo)/4)*2)) ((medianAdjacent ltInt d (lo+(((hi-lo)/4)*1)) 0).2)).1:Nat):Int),I6 (((medianAdjacent ltInt d (lo+(((hi-lo)/4)*3)) ((medianAdjacent ltInt d (lo+(((hi-lo)/4)*2)) ((medianAdjacent ltInt d (lo+(((hi-lo)/4)*1)) 0).2)).2)).1:Nat):Int),Pq b1 0]) (V:=fun _:Unit=>I6 (((Sort.median ltInt d ((medianAdjacent ltInt d (lo+(((hi-lo)/4)*1)) 0).1) ((medianAdjacent ltInt d (lo+(((hi-lo)/4)*2)) ((medianAdjacent ltInt d (lo+(((hi-lo)/4)*1)) 0).2)).1) ((medianAdjacent ltInt d (lo+(((hi-lo)/4)*3)) ((medianAdjacent ltInt d (lo+(((hi-lo)/4)*2)) ((medianAdjacent ltInt d (lo+(((hi-lo)/4)*1)) 0).2)).2)).1) ((medianAdjacent ltInt d (lo+(((hi-lo)/4)*3)) ((medianAdjacent ltInt d (lo+(((hi-lo)/4)*2)) ((medianAdjacent ltInt d (lo+(((hi-lo)/4)*1)) 0).2)).2)).2)).1:Nat):Int)) (R:=blk b1 [I6 (((medianAdjacent ltInt d (lo+(((hi-lo)/4)*3)) ((medianAdjacent ltInt d (lo+(((hi-lo)/4)*2)) ((medianAdjacent ltInt d (lo+(((hi-lo)/4)*1)) 0).2)).2)).2:Nat):Int)] 3) (R':=fun _=>blk b1 [I6 (((Sort.median ltInt d ((medianAdjacent ltInt d (lo+(((hi-lo)/4)*1)) 0).1) ((medianAdjacent ltInt d (lo+(((hi-lo)/4)*2)) ((medianAdjacent ltInt d (lo+(((hi-lo)/4)*1)) 0).2)).1) ((medianAdjacent ltInt d (lo+(((hi-lo)/4)*3)) ((medianAdjacent ltInt d (lo+(((hi-lo)/4)*2)) ((medianAdjacent ltInt d (lo+(((hi-lo)/4)*1)) 0).2)).2)).1) ((medianAdjacent ltInt d (lo+(((hi-lo)/4)*3)) ((medianAdjacent ltInt d (lo+(((hi-lo)/4)*2)) ((medianAdjacent ltInt d (lo+(((hi-lo)/4)*1)) 0).2)).2)).2)).2:Nat):Int)] 3) (Lo:=fun _=>[]) (F:=fun _ _=>True) Qlm rfl rfl hs 0 rfl (fun S hS hlt hSM=>Ql4 _ S a N c d hsz hN b1 ((medianAdjacent ltInt d (lo+(((hi-lo)/4)*3)) ((medianAdjacent ltInt d (lo+(((hi-lo)/4)*2)) ((medianAdjacent ltInt d (lo+(((hi-lo)/4)*1)) 0).2)).2)).2) (by omega) (Rd.own' hr hs) (Nat.lt_of_lt_of_le hb hs.size) (fun h=>hSM _ h hb) hS hlt ((medianAdjacent ltInt d (lo+(((hi-lo)/4)*1)) 0).1) ((medianAdjacent ltInt d (lo+(((hi-lo)/4)*2)) ((medianAdjacent ltInt d (lo+(((hi-lo)/4)*1)) 0).2)).1) ((medianAdjacent ltInt d (lo+(((hi-lo)/4)*3)) ((medianAdjacent ltInt d (lo+(((hi-lo)/4)*2)) ((medianAdjacent ltInt d (lo+(((hi-lo)/4)*1)) 0).2)).2)).1) (by omega) (by omega) (by omega)) fun _ w8 hs _=>(Qaa (Qad (V:=I6 (((Sort.median ltInt d ((medianAdjacent ltInt d (lo+(((hi-lo)/4)*1)) 0).1) ((medianAdjacent ltInt d (lo+(((hi-lo)/4)*2)) ((medianAdjacent ltInt d (lo+(((hi-lo)/4)*1)) 0).2)).1) ((medianAdjacent ltInt d (lo+(((hi-lo)/4)*3)) ((medianAdjacent ltInt d (lo+(((hi-lo)/4)*2)) ((medianAdjacent ltInt d (lo+(((hi-lo)/4)*1)) 0).2)).2)).1) ((medianAdjacent ltInt d (lo+(((hi-lo)/4)*3)) ((medianAdjacent ltInt d (lo+(((hi-lo)/4)*2)) ((medianAdjacent ltInt d (lo+(((hi-lo)/4)*1)) 0).2)).2)).2)).1:Nat):Int)) rfl (Qaf (Qah (Qab (Qaa (QaE (V:=I6 (((Sort.median ltInt d ((medianAdjacent ltInt d (lo+(((hi-lo)/4)*1)) 0).1) ((medianAdjacent ltInt d (lo+(((hi-lo)/4)*2)) ((medianAdjacent ltInt d (lo+(((hi-lo)/4)*1)) 0).2)).1) ((medianAdjacent ltInt d (lo+(((hi-lo)/4)*3)) ((medianAdjacent ltInt d (lo+(((hi-lo)/4)*2)) ((medianAdjacent ltInt d (lo+(((hi-lo)/4)*1)) 0).2)).2)).1) ((medianAdjacent ltInt d (lo+(((hi-lo)/4)*3)) ((medianAdjacent ltInt d (lo+(((hi-lo)/4)*2)) ((medianAdjacent ltInt d (lo+(((hi-lo)/4)*1)) 0).2)).2)).2)).2:Nat):Int)) QqP hs 0 rfl rfl rfl (Qaf (Qan (Qah (Qab (Qaa (QaS rfl rfl (Qaa (Qad (V:=.bool (decide ((((Sort.median ltInt d ((medianAdjacent ltInt d (lo+(((hi-lo)/4)*1)) 0).1) ((medianAdjacent ltInt d (lo+(((hi-lo)/4)*2)) ((medianAdjacent ltInt d (lo+(((hi-lo)/4)*1)) 0).2)).1) ((medianAdjacent ltInt d (lo+(((hi-lo)/4)*3)) ((medianAdjacent ltInt d (lo+(((hi-lo)/4)*2)) ((medianAdjacent ltInt d (lo+(((hi-lo)/4)*1)) 0).2)).2)).1) ((medianAdjacent ltInt d (lo+(((hi-lo)/4)*3)) ((medianAdjacent ltInt d (lo+(((hi-lo)/4)*2)) ((medianAdjacent ltInt d (lo+(((hi-lo)/4)*1)) 0).2)).2)).2)).2:Nat):Int)=0))) rfl (Qaf (Qao (t:=decide ((((Sort.median ltInt d ((medianAdjacent ltInt d (lo+(((hi-lo)/4)*1)) 0).1) ((medianAdjacent ltInt d (lo+(((hi-lo)/4)*2)) ((medianAdjacent ltInt d (lo+(((hi-lo)/4)*1)) 0).2)).1) ((medianAdjacent ltInt d (lo+(((hi-lo)/4)*3)) ((medianAdjacent ltInt d (lo+(((hi-lo)/4)*2)) ((medianAdjacent ltInt d (lo+(((hi-lo)/4)*1)) 0).2)).2)).1) ((medianAdjacent ltInt d (lo+(((hi-lo)/4)*3)) ((medianAdjacent ltInt d (lo+(((hi-lo)/4)*2)) ((medianAdjacent ltInt d (lo+(((hi-lo)/4)*1)) 0).2)).2)).2)).2:Nat):Int)=0)) rfl (fun c9=>?_) (fun c9=>?_))))))))))))))))))))))))))))
   ·
    replace c9:=QQ1 c9
    refine Qah (Qab (Qaa (Qac (V:=I6 (((Sort.median ltInt d ((medianAdjacent ltInt d (lo+(((hi-lo)/4)*1)) 0).1) ((medianAdjacent ltInt d (lo+(((hi-lo)/4)*2)) ((medianAdjacent ltInt d (lo+(((hi-lo)/4)*1)) 0).2)).1) ((medianAdjacent ltInt d (lo+(((hi-lo)/4)*3)) ((medianAdjacent ltInt d (lo+(((hi-lo)/4)*2)) ((medianAdjacent ltInt d (lo+(((hi-lo)/4)*1)) 0).2)).2)).1) ((medianAdjacent ltInt d (lo+(((hi-lo)/4)*3)) ((medianAdjacent ltInt d (lo+(((hi-lo)/4)*2)) ((medianAdjacent ltInt d (lo+(((hi-lo)/4)*1)) 0).2)).2)).2)).1:Nat):Int)) rfl (Qaa (Qad (V:=I6 (((Sort.median ltInt d ((medianAdjacent ltInt d (lo+(((hi-lo)/4)*1)) 0).1) ((medianAdjacent ltInt d (lo+(((hi-lo)/4)*2)) ((medianAdjacent ltInt d (lo+(((hi-lo)/4)*1)) 0).2)).1) ((medianAdjacent ltInt d (lo+(((hi-lo)/4)*3)) ((medianAdjacent ltInt d (lo+(((hi-lo)/4)*2)) ((medianAdjacent ltInt d (lo+(((hi-lo)/4)*1)) 0).2)).2)).1) ((medianAdjacent ltInt d (lo+(((hi-lo)/4)*3)) ((medianAdjacent ltInt d (lo+(((hi-lo)/4)*2)) ((medianAdjacent ltInt d (lo+(((hi-lo)/4)*1)) 0).2)).2)).2)).1:Nat):Int)) rfl (Qaa (Qad (V:=I6 1) rfl (Qaf (Qav ?_)))))))))
    refine ⟨_,Qbq (U:=I6 (((Sort.median ltInt d ((medianAdjacent ltInt d (lo+(((hi-lo)/4)*1)) 0).1) ((medianAdjacent ltInt d (lo+(((hi-lo)/4)*2)) ((medianAdjacent ltInt d (lo+(((hi-lo)/4)*1)) 0).2)).1) ((medianAdjacent ltInt d (lo+(((hi-lo)/4)*3)) ((medianAdjacent ltInt d (lo+(((hi-lo)/4)*2)) ((medianAdjacent ltInt d (lo+(((hi-lo)/4)*1)) 0).2)).2)).1) ((medianAdjacent ltInt d (lo+(((hi-lo)/4)*3)) ((medianAdjacent ltInt d (lo+(((hi-lo)/4)*2)) ((medianAdjacent ltInt d (lo+(((hi-lo)/4)*1)) 0).2)).2)).2)).1:Nat):Int)) (V:=I6 1) Tryz.results175 rfl rfl,?_⟩
    refine ⟨?_,hs.take 0⟩
    rw [Qi7 (X:=Sort.median ltInt d (medianAdjacent ltInt d (lo+((hi-lo)/4)*1) (0)).1 (medianAdjacent ltInt d (lo+((hi-lo)/4)*2) ((medianAdjacent ltInt d (lo+((hi-lo)/4)*1) (0)).2)).1 (medianAdjacent ltInt d (lo+((hi-lo)/4)*3) ((medianAdjacent ltInt d (lo+((hi-lo)/4)*2) ((medianAdjacent ltInt d (lo+((hi-lo)/4)*1) (0)).2)).2)).1 (medianAdjacent ltInt d (lo+((hi-lo)/4)*3) ((medianAdjacent ltInt d (lo+((hi-lo)/4)*2) ((medianAdjacent ltInt d (lo+((hi-lo)/4)*1) (0)).2)).2)).2) (h:=.increasing) ((if_pos (by omega)).trans (if_pos (by omega))) (if_pos (by omega))];rfl
   replace c9:=QQ2 c9
   refine Qah (Qab (Qaa (QaS rfl rfl (Qaa (Qad (V:=.bool (decide ((((Sort.median ltInt d ((medianAdjacent ltInt d (lo+(((hi-lo)/4)*1)) 0).1) ((medianAdjacent ltInt d (lo+(((hi-lo)/4)*2)) ((medianAdjacent ltInt d (lo+(((hi-lo)/4)*1)) 0).2)).1) ((medianAdjacent ltInt d (lo+(((hi-lo)/4)*3)) ((medianAdjacent ltInt d (lo+(((hi-lo)/4)*2)) ((medianAdjacent ltInt d (lo+(((hi-lo)/4)*1)) 0).2)).2)).1) ((medianAdjacent ltInt d (lo+(((hi-lo)/4)*3)) ((medianAdjacent ltInt d (lo+(((hi-lo)/4)*2)) ((medianAdjacent ltInt d (lo+(((hi-lo)/4)*1)) 0).2)).2)).2)).2:Nat):Int)=12))) rfl (Qaf (Qao (t:=decide ((((Sort.median ltInt d ((medianAdjacent ltInt d (lo+(((hi-lo)/4)*1)) 0).1) ((medianAdjacent ltInt d (lo+(((hi-lo)/4)*2)) ((medianAdjacent ltInt d (lo+(((hi-lo)/4)*1)) 0).2)).1) ((medianAdjacent ltInt d (lo+(((hi-lo)/4)*3)) ((medianAdjacent ltInt d (lo+(((hi-lo)/4)*2)) ((medianAdjacent ltInt d (lo+(((hi-lo)/4)*1)) 0).2)).2)).1) ((medianAdjacent ltInt d (lo+(((hi-lo)/4)*3)) ((medianAdjacent ltInt d (lo+(((hi-lo)/4)*2)) ((medianAdjacent ltInt d (lo+(((hi-lo)/4)*1)) 0).2)).2)).2)).2:Nat):Int)=12)) rfl (fun c10=>?_) (fun c10=>?_))))))))
   ·
    replace c10:=QQ1 c10
    refine Qah (Qab (Qaa (Qac (V:=I6 (((Sort.median ltInt d ((medianAdjacent ltInt d (lo+(((hi-lo)/4)*1)) 0).1) ((medianAdjacent ltInt d (lo+(((hi-lo)/4)*2)) ((medianAdjacent ltInt d (lo+(((hi-lo)/4)*1)) 0).2)).1) ((medianAdjacent ltInt d (lo+(((hi-lo)/4)*3)) ((medianAdjacent ltInt d (lo+(((hi-lo)/4)*2)) ((medianAdjacent ltInt d (lo+(((hi-lo)/4)*1)) 0).2)).2)).1) ((medianAdjacent ltInt d (lo+(((hi-lo)/4)*3)) ((medianAdjacent ltInt d (lo+(((hi-lo)/4)*2)) ((medianAdjacent ltInt d (lo+(((hi-lo)/4)*1)) 0).2)).2)).2)).1:Nat):Int)) rfl (Qaa (Qad (V:=I6 (((Sort.median ltInt d ((medianAdjacent ltInt d (lo+(((hi-lo)/4)*1)) 0).1) ((medianAdjacent ltInt d (lo+(((hi-lo)/4)*2)) ((medianAdjacent ltInt d (lo+(((hi-lo)/4)*1)) 0).2)).1) ((medianAdjacent ltInt d (lo+(((hi-lo)/4)*3)) ((medianAdjacent ltInt d (lo+(((hi-lo)/4)*2)) ((medianAdjacent ltInt d (lo+(((hi-lo)/4)*1)) 0).2)).2)).1) ((medianAdjacent ltInt d (lo+(((hi-lo)/4)*3)) ((medianAdjacent ltInt d (lo+(((hi-lo)/4)*2)) ((medianAdjacent ltInt d (lo+(((hi-lo)/4)*1)) 0).2)).2)).2)).1:Nat):Int)) rfl (Qaa (Qad (V:=I6 2) rfl (Qaf (Qav ?_)))))))))
    refine ⟨_,Qbq (U:=I6 (((Sort.median ltInt d ((medianAdjacent ltInt d (lo+(((hi-lo)/4)*1)) 0).1) ((medianAdjacent ltInt d (lo+(((hi-lo)/4)*2)) ((medianAdjacent ltInt d (lo+(((hi-lo)/4)*1)) 0).2)).1) ((medianAdjacent ltInt d (lo+(((hi-lo)/4)*3)) ((medianAdjacent ltInt d (lo+(((hi-lo)/4)*2)) ((medianAdjacent ltInt d (lo+(((hi-lo)/4)*1)) 0).2)).2)).1) ((medianAdjacent ltInt d (lo+(((hi-lo)/4)*3)) ((medianAdjacent ltInt d (lo+(((hi-lo)/4)*2)) ((medianAdjacent ltInt d (lo+(((hi-lo)/4)*1)) 0).2)).2)).2)).1:Nat):Int)) (V:=I6 2) Tryz.results175 rfl rfl,?_⟩
    refine ⟨?_,hs.take 0⟩
    rw [Qi7 (X:=Sort.median ltInt d (medianAdjacent ltInt d (lo+((hi-lo)/4)*1) (0)).1 (medianAdjacent ltInt d (lo+((hi-lo)/4)*2) ((medianAdjacent ltInt d (lo+((hi-lo)/4)*1) (0)).2)).1 (medianAdjacent ltInt d (lo+((hi-lo)/4)*3) ((medianAdjacent ltInt d (lo+((hi-lo)/4)*2) ((medianAdjacent ltInt d (lo+((hi-lo)/4)*1) (0)).2)).2)).1 (medianAdjacent ltInt d (lo+((hi-lo)/4)*3) ((medianAdjacent ltInt d (lo+((hi-lo)/4)*2) ((medianAdjacent ltInt d (lo+((hi-lo)/4)*1) (0)).2)).2)).2) (h:=.decreasing) ((if_pos (by omega)).trans (if_pos (by omega))) ((if_neg (by omega)).trans (if_pos (by omega)))];rfl
   replace c10:=QQ2 c10
   refine Qah (Qab (Qaa (Qac (V:=I6 (((Sort.median ltInt d ((medianAdjacent ltInt d (lo+(((hi-lo)/4)*1)) 0).1) ((medianAdjacent ltInt d (lo+(((hi-lo)/4)*2)) ((medianAdjacent ltInt d (lo+(((hi-lo)/4)*1)) 0).2)).1) ((medianAdjacent ltInt d (lo+(((hi-lo)/4)*3)) ((medianAdjacent ltInt d (lo+(((hi-lo)/4)*2)) ((medianAdjacent ltInt d (lo+(((hi-lo)/4)*1)) 0).2)).2)).1) ((medianAdjacent ltInt d (lo+(((hi-lo)/4)*3)) ((medianAdjacent ltInt d (lo+(((hi-lo)/4)*2)) ((medianAdjacent ltInt d (lo+(((hi-lo)/4)*1)) 0).2)).2)).2)).1:Nat):Int)) rfl (Qaa (Qad (V:=I6 (((Sort.median ltInt d ((medianAdjacent ltInt d (lo+(((hi-lo)/4)*1)) 0).1) ((medianAdjacent ltInt d (lo+(((hi-lo)/4)*2)) ((medianAdjacent ltInt d (lo+(((hi-lo)/4)*1)) 0).2)).1) ((medianAdjacent ltInt d (lo+(((hi-lo)/4)*3)) ((medianAdjacent ltInt d (lo+(((hi-lo)/4)*2)) ((medianAdjacent ltInt d (lo+(((hi-lo)/4)*1)) 0).2)).2)).1) ((medianAdjacent ltInt d (lo+(((hi-lo)/4)*3)) ((medianAdjacent ltInt d (lo+(((hi-lo)/4)*2)) ((medianAdjacent ltInt d (lo+(((hi-lo)/4)*1)) 0).2)).2)).2)).1:Nat):Int)) rfl (Qaa (Qad (V:=I6 0) rfl (Qaf (Qav ?_)))))))))
   refine ⟨_,Qbq (U:=I6 (((Sort.median ltInt d ((medianAdjacent ltInt d (lo+(((hi-lo)/4)*1)) 0).1) ((medianAdjacent ltInt d (lo+(((hi-lo)/4)*2)) ((medianAdjacent ltInt d (lo+(((hi-lo)/4)*1)) 0).2)).1) ((medianAdjacent ltInt d (lo+(((hi-lo)/4)*3)) ((medianAdjacent ltInt d (lo+(((hi-lo)/4)*2)) ((medianAdjacent ltInt d (lo+(((hi-lo)/4)*1)) 0).2)).2)).1) ((medianAdjacent ltInt d (lo+(((hi-lo)/4)*3)) ((medianAdjacent ltInt d (lo+(((hi-lo)/4)*2)) ((medianAdjacent ltInt d (lo+(((hi-lo)/4)*1)) 0).2)).2)).2)).1:Nat):Int)) (V:=I6 0) Tryz.results175 rfl rfl,?_⟩
   refine ⟨?_,hs.take 0⟩
   rw [Qi7 (X:=Sort.median ltInt d (medianAdjacent ltInt d (lo+((hi-lo)/4)*1) (0)).1 (medianAdjacent ltInt d (lo+((hi-lo)/4)*2) ((medianAdjacent ltInt d (lo+((hi-lo)/4)*1) (0)).2)).1 (medianAdjacent ltInt d (lo+((hi-lo)/4)*3) ((medianAdjacent ltInt d (lo+((hi-lo)/4)*2) ((medianAdjacent ltInt d (lo+((hi-lo)/4)*1) (0)).2)).2)).1 (medianAdjacent ltInt d (lo+((hi-lo)/4)*3) ((medianAdjacent ltInt d (lo+((hi-lo)/4)*2) ((medianAdjacent ltInt d (lo+((hi-lo)/4)*1) (0)).2)).2)).2) (h:=.unknown) ((if_pos (by omega)).trans (if_pos (by omega))) ((if_neg (by omega)).trans (if_neg (by omega)))];rfl
  replace c4:=QQ2 c4
  refine Qaq (Qab (Qaa (Qac (V:=.slice a N c) rfl (Qaa (Qac (V:=I6 ((lo+(((hi-lo)/4)*1):Nat):Int)) rfl (Qaa (Qac (V:=I6 ((lo+(((hi-lo)/4)*2):Nat):Int)) rfl (Qaa (Qac (V:=I6 ((lo+(((hi-lo)/4)*3):Nat):Int)) rfl (Qaa (QcV (vs:=[.slice a N c,I6 ((lo+(((hi-lo)/4)*1):Nat):Int),I6 ((lo+(((hi-lo)/4)*2):Nat):Int),I6 ((lo+(((hi-lo)/4)*3):Nat):Int),Pq b1 0]) (V:=fun _:Unit=>I6 (((Sort.median ltInt d (lo+(((hi-lo)/4)*1)) (lo+(((hi-lo)/4)*2)) (lo+(((hi-lo)/4)*3)) 0).1:Nat):Int)) (R:=blk b1 [I6 (0:Int)] 3) (R':=fun _=>blk b1 [I6 (((Sort.median ltInt d (lo+(((hi-lo)/4)*1)) (lo+(((hi-lo)/4)*2)) (lo+(((hi-lo)/4)*3)) 0).2:Nat):Int)] 3) (Lo:=fun _=>[]) (F:=fun _ _=>True) Qlm rfl rfl hs 0 rfl (fun S hS hlt hSM=>Ql4 _ S a N c d hsz hN b1 0 (by omega) (Rd.own' hr hs) (Nat.lt_of_lt_of_le hb hs.size) (fun h=>hSM _ h hb) hS hlt (lo+(((hi-lo)/4)*1)) (lo+(((hi-lo)/4)*2)) (lo+(((hi-lo)/4)*3)) (by omega) (by omega) (by omega)) fun _ w11 hs _=>(Qaa (Qad (V:=I6 (((Sort.median ltInt d (lo+(((hi-lo)/4)*1)) (lo+(((hi-lo)/4)*2)) (lo+(((hi-lo)/4)*3)) 0).1:Nat):Int)) rfl (Qaf (Qah (Qab (Qaa (QaE (V:=I6 (((Sort.median ltInt d (lo+(((hi-lo)/4)*1)) (lo+(((hi-lo)/4)*2)) (lo+(((hi-lo)/4)*3)) 0).2:Nat):Int)) QqP hs 0 rfl rfl rfl (Qaf (Qan (Qah (Qab (Qaa (QaS rfl rfl (Qaa (Qad (V:=.bool (decide ((((Sort.median ltInt d (lo+(((hi-lo)/4)*1)) (lo+(((hi-lo)/4)*2)) (lo+(((hi-lo)/4)*3)) 0).2:Nat):Int)=0))) rfl (Qaf (Qao (t:=decide ((((Sort.median ltInt d (lo+(((hi-lo)/4)*1)) (lo+(((hi-lo)/4)*2)) (lo+(((hi-lo)/4)*3)) 0).2:Nat):Int)=0)) rfl (fun c12=>?_) (fun c12=>?_)))))))))))))))))))))))))))))
  ·
   replace c12:=QQ1 c12
   refine Qah (Qab (Qaa (Qac (V:=I6 (((Sort.median ltInt d (lo+(((hi-lo)/4)*1)) (lo+(((hi-lo)/4)*2)) (lo+(((hi-lo)/4)*3)) 0).1:Nat):Int)) rfl (Qaa (Qad (V:=I6 (((Sort.median ltInt d (lo+(((hi-lo)/4)*1)) (lo+(((hi-lo)/4)*2)) (lo+(((hi-lo)/4)*3)) 0).1:Nat):Int)) rfl (Qaa (Qad (V:=I6 1) rfl (Qaf (Qav ?_)))))))))
   refine ⟨_,Qbq (U:=I6 (((Sort.median ltInt d (lo+(((hi-lo)/4)*1)) (lo+(((hi-lo)/4)*2)) (lo+(((hi-lo)/4)*3)) 0).1:Nat):Int)) (V:=I6 1) Tryz.results175 rfl rfl,?_⟩
   refine ⟨?_,hs.take 0⟩
   rw [Qi7 (X:=Sort.median ltInt d (lo+((hi-lo)/4)*1) (lo+((hi-lo)/4)*2) (lo+((hi-lo)/4)*3) 0) (h:=.increasing) ((if_pos (by omega)).trans (if_neg (by omega))) (if_pos (by omega))];rfl
  replace c12:=QQ2 c12
  refine Qah (Qab (Qaa (QaS rfl rfl (Qaa (Qad (V:=.bool (decide ((((Sort.median ltInt d (lo+(((hi-lo)/4)*1)) (lo+(((hi-lo)/4)*2)) (lo+(((hi-lo)/4)*3)) 0).2:Nat):Int)=12))) rfl (Qaf (Qao (t:=decide ((((Sort.median ltInt d (lo+(((hi-lo)/4)*1)) (lo+(((hi-lo)/4)*2)) (lo+(((hi-lo)/4)*3)) 0).2:Nat):Int)=12)) rfl (fun c13=>?_) (fun c13=>?_))))))))
  ·
   replace c13:=QQ1 c13
   refine Qah (Qab (Qaa (Qac (V:=I6 (((Sort.median ltInt d (lo+(((hi-lo)/4)*1)) (lo+(((hi-lo)/4)*2)) (lo+(((hi-lo)/4)*3)) 0).1:Nat):Int)) rfl (Qaa (Qad (V:=I6 (((Sort.median ltInt d (lo+(((hi-lo)/4)*1)) (lo+(((hi-lo)/4)*2)) (lo+(((hi-lo)/4)*3)) 0).1:Nat):Int)) rfl (Qaa (Qad (V:=I6 2) rfl (Qaf (Qav ?_)))))))))
   refine ⟨_,Qbq (U:=I6 (((Sort.median ltInt d (lo+(((hi-lo)/4)*1)) (lo+(((hi-lo)/4)*2)) (lo+(((hi-lo)/4)*3)) 0).1:Nat):Int)) (V:=I6 2) Tryz.results175 rfl rfl,?_⟩
   refine ⟨?_,hs.take 0⟩
   rw [Qi7 (X:=Sort.median ltInt d (lo+((hi-lo)/4)*1) (lo+((hi-lo)/4)*2) (lo+((hi-lo)/4)*3) 0) (h:=.decreasing) ((if_pos (by omega)).trans (if_neg (by omega))) ((if_neg (by omega)).trans (if_pos (by omega)))];rfl
  replace c13:=QQ2 c13
  refine Qah (Qab (Qaa (Qac (V:=I6 (((Sort.median ltInt d (lo+(((hi-lo)/4)*1)) (lo+(((hi-lo)/4)*2)) (lo+(((hi-lo)/4)*3)) 0).1:Nat):Int)) rfl (Qaa (Qad (V:=I6 (((Sort.median ltInt d (lo+(((hi-lo)/4)*1)) (lo+(((hi-lo)/4)*2)) (lo+(((hi-lo)/4)*3)) 0).1:Nat):Int)) rfl (Qaa (Qad (V:=I6 0) rfl (Qaf (Qav ?_)))))))))
  refine ⟨_,Qbq (U:=I6 (((Sort.median ltInt d (lo+(((hi-lo)/4)*1)) (lo+(((hi-lo)/4)*2)) (lo+(((hi-lo)/4)*3)) 0).1:Nat):Int)) (V:=I6 0) Tryz.results175 rfl rfl,?_⟩
  refine ⟨?_,hs.take 0⟩
  rw [Qi7 (X:=Sort.median ltInt d (lo+((hi-lo)/4)*1) (lo+((hi-lo)/4)*2) (lo+((hi-lo)/4)*3) 0) (h:=.unknown) ((if_pos (by omega)).trans (if_neg (by omega))) ((if_neg (by omega)).trans (if_neg (by omega)))];rfl
 replace c3:=QQ2 c3
 refine Qaq (Qah (Qab (Qaa (QaE (V:=I6 0) QqP hs 0 rfl rfl rfl (Qaf (Qan (Qah (Qab (Qaa (QaS rfl rfl (Qaa (Qad (V:=.bool (decide ((0:Int)=0))) rfl (Qaf (Qao (t:=decide ((0:Int)=0)) rfl (fun c14=>?_) (fun c14=>?_)))))))))))))))
 ·
  replace c14:=QQ1 c14
  refine Qah (Qab (Qaa (Qac (V:=I6 ((lo+(((hi-lo)/4)*2):Nat):Int)) rfl (Qaa (Qad (V:=I6 ((lo+(((hi-lo)/4)*2):Nat):Int)) rfl (Qaa (Qad (V:=I6 1) rfl (Qaf (Qav ?_)))))))))
  refine ⟨_,Qbq (U:=I6 ((lo+(((hi-lo)/4)*2):Nat):Int)) (V:=I6 1) Tryz.results175 rfl rfl,?_⟩
  refine ⟨?_,hs.take 0⟩
  rw [Qi7 (X:=(lo+((hi-lo)/4)*2,0)) (h:=.increasing) (if_neg (by omega)) (if_pos rfl)];rfl
 replace c14:=QQ2 c14
 refine Qah (Qab (Qaa (QaS rfl rfl (Qaa (Qad (V:=.bool (decide ((0:Int)=12))) rfl (Qaf (Qao (t:=decide ((0:Int)=12)) rfl (fun c15=>?_) (fun c15=>?_))))))))
 ·
  replace c15:=QQ1 c15
  refine Qah (Qab (Qaa (Qac (V:=I6 ((lo+(((hi-lo)/4)*2):Nat):Int)) rfl (Qaa (Qad (V:=I6 ((lo+(((hi-lo)/4)*2):Nat):Int)) rfl (Qaa (Qad (V:=I6 2) rfl (Qaf (Qav ?_)))))))))
  refine ⟨_,Qbq (U:=I6 ((lo+(((hi-lo)/4)*2):Nat):Int)) (V:=I6 2) Tryz.results175 rfl rfl,?_⟩
  exfalso;omega
 replace c15:=QQ2 c15
 refine Qah (Qab (Qaa (Qac (V:=I6 ((lo+(((hi-lo)/4)*2):Nat):Int)) rfl (Qaa (Qad (V:=I6 ((lo+(((hi-lo)/4)*2):Nat):Int)) rfl (Qaa (Qad (V:=I6 0) rfl (Qaf (Qav ?_)))))))))
 refine ⟨_,Qbq (U:=I6 ((lo+(((hi-lo)/4)*2):Nat):Int)) (V:=I6 0) Tryz.results175 rfl rfl,?_⟩
 exfalso;omega
end Tt
end Go.Proofs
namespace Go.Proofs
open Go Go.Vx Go.RowKit
open Go.Sort (ltInt medianAdjacent order2 partition)
namespace Tt
section
variable {lo hi i s:Nat} {d:Array Int}
theorem Qtt (h:(i:Int)<(hi:Int)) (h2:¬d[i]!<d[i-1]!):Sort.scanSorted ltInt d hi i=Sort.scanSorted ltInt d hi (i+1):=by
 rw [Sort.scanSorted,if_pos]
 simp only [Bool.and_eq_true,decide_eq_true_eq,Bool.not_eq_true',ltInt,decide_eq_false_iff_not];exact ⟨by omega,h2⟩
theorem QuQ (h:(decide ((i:Int)<(hi:Int))&&!decide (d[i]!<d[i-1]!))=false):Sort.scanSorted ltInt d hi i=i:=by
 rw [Sort.scanSorted,if_neg]
 intro h2
 simp only [Bool.and_eq_true,decide_eq_true_eq,Bool.not_eq_true',ltInt,decide_eq_false_iff_not] at h2
 simp only [Bool.and_eq_false_iff,decide_eq_false_iff_not,Bool.not_eq_false',decide_eq_true_eq] at h
 rcases h with h|h
 ·exact h (by omega)
 exact h2.2 h
theorem Qto (h:1<=(i:Int)) (h2:d[i]!<d[i-1]!):Sort.shiftDown ltInt i d=Sort.shiftDown ltInt (i-1) (Sort.swp d i (i-1)):=by
 obtain ⟨j,rfl⟩:∃ j,i=j+1:=⟨i-1,by omega⟩
 rw [Nat.add_sub_cancel] at *
 rw [Sort.shiftDown,if_neg (by simp [ltInt,h2])]
theorem Qve (h2:¬d[i]!<d[i-1]!):Sort.shiftDown ltInt i d=d:=by
 cases i with
 | zero=>rfl
 | succ j=>rw [Nat.add_sub_cancel] at h2;rw [Sort.shiftDown,if_pos (by simpa [ltInt] using h2)]
theorem Qwe (h:¬1<=(i:Int)):Sort.shiftDown ltInt i d=d:=by
 have:i=0:=by omega
 subst this;rfl
theorem QtA (h:(i:Int)<(hi:Int)) (h2:d[i]!<d[i-1]!):Sort.shiftUp ltInt hi i d=Sort.shiftUp ltInt hi (i+1) (Sort.swp d i (i-1)):=by
 rw [Sort.shiftUp,if_pos (by omega),if_neg (by simp [ltInt,h2])]
theorem Quq (h:(i:Int)<(hi:Int)) (h2:¬d[i]!<d[i-1]!):Sort.shiftUp ltInt hi i d=d:=by
 rw [Sort.shiftUp,if_pos (by omega),if_pos (by simpa [ltInt] using h2)]
theorem Qwd (h:¬(i:Int)<(hi:Int)):Sort.shiftUp ltInt hi i d=d:=by rw [Sort.shiftUp,if_neg (by omega)]
def dnI (lo i:Nat) (d:Array Int):Array Int:=if i-lo ≥ 2 then Sort.shiftDown ltInt (i-1) d else d
def upI (hi i:Nat) (d:Array Int):Array Int:=if hi-i ≥ 2 then Sort.shiftUp ltInt hi (i+1) d else d
theorem QiZ {q i2:Nat} (hq:q<5) (h2:i2=Sort.scanSorted ltInt d hi i):Sort.partialIns ltInt lo hi (5-q) i d=if i2=hi then (d,true) else if hi-lo<50 then (d,false) else Sort.partialIns ltInt lo hi (5-(q+1)) i2 (upI hi i2 (dnI lo i2 (Sort.swp d i2 (i2-1)))):=by
 obtain ⟨s,hs⟩:∃ s,5-q=s+1:=⟨5-q-1,by omega⟩
 rw [hs,show 5-(q+1)=s by omega,h2]
 rfl
end
theorem QqU (w:World) (S:Nat->Prop) (a:Option Addr) (N c:Nat) (d:Array Int) (hsz:d.size=N) (hN:N<=2305843009213693951) (lo hi:Nat) (h1:lo<hi) (h2:hi<=N) (hR:(row (.slice a N c) (d.toList.map (ic .u16)) 32 1).holds w S) (hlt:∀ x,S x->x<w.heap.size):Calls Tryz.prog 177 #[.slice a N c,.int .i64 (lo:Int),.int .i64 (hi:Int)] w (fun e w'=>∃ _u:Unit,e = .returned (.bool (Sort.partialInsertionSort ltInt d lo hi).2)/\Own w S w' [row (.slice a N c) (((Sort.partialInsertionSort ltInt d lo hi).1).toList.map (ic .u16)) 32 1]/\(Sort.partialInsertionSort ltInt d lo hi).1.size=N):=by
 refine Qaj (n:=133) Tryz.func177 rfl Tryz.ntmps177 rfl ?_
 have hs:=Own.lent hR hlt
 refine Qah (Qab (Qaa (Qad (V:=.bool false) rfl (Qaf (Qah (Qab (Qaa (Qac (V:=I6 (lo:Int)) rfl (Qaa (QaD (a:=(lo:Int)) (b:=1) (c:=((lo+1:Nat):Int)) rfl rfl (Qak (by omega) (by omega)) (Qaa (Qad (V:=I6 ((lo+1:Nat):Int)) rfl (Qaf (Qah (Qah (Qab (Qaa (Qad (V:=I6 0) rfl (Qaf (Qan (QaA (fun J μ J' w'=>∃ (Jo:Env) (q:Nat) (i:Nat) (d1:Array Int),J'=upd (upd (mix ([6,7,8,9,10]++sq 13 120) Jo J) 8 (I6 (q:Int))) 7 (I6 (i:Int))/\(q<=5)/\(lo+1<=i)/\(i<=hi)/\(d1.size=N)/\(Sort.partialIns ltInt lo hi (5-q) i d1=Sort.partialInsertionSort ltInt d lo hi)/\μ=5-q/\Own w S w' [row (.slice a N c) (d1.toList.map (ic .u16)) 32 1]) ?_ ?_)))))))))))))))))))))
 ·exact ⟨_,_,0,lo+1,d,Qai (Qai (Qap (ds:=([6,7,8,9,10]++sq 13 120)) (Agr.refl _ _)) rfl) rfl,(by omega),(by omega),(by omega),hsz,rfl,rfl,hs⟩
 rintro μ J' w1 ⟨Jo,q,i,d1,rfl,hq,hi0,hi1,hz1,hev,rfl,hs⟩
 refine Qah (Qah (Qab (Qaa (Qac (V:=I6 (q:Int)) rfl (Qaa (QaQ rfl rfl (Qaf (Qao (t:=decide ((q:Int)<5)) rfl (fun c2=>?_) (fun c2=>?_)))))))))
 ·
  replace c2:=QQ1 c2
  refine Qaq (Qah (Qan (Qah (Qan (QaA (fun J μ J' w'=>∃ (Jo:Env) (i2:Nat),J'=upd (mix ([7]++sq 17 18) Jo J) 7 (I6 (i2:Int))/\(i<=i2)/\(i2<=hi)/\(Sort.scanSorted ltInt d1 hi i2=Sort.scanSorted ltInt d1 hi i)/\μ=hi-i2/\Own w S w' [row (.slice a N c) (d1.toList.map (ic .u16)) 32 1]) ?_ ?_)))))
  ·exact ⟨_,_,i,Qai (Qap (ds:=([7]++sq 17 18)) (Agr.refl _ _)) rfl,(Nat.le_refl _),hi1,rfl,rfl,hs⟩
  rintro μ J' w3 ⟨Jo,i2,rfl,hi2a,hi2b,hsc,rfl,hs⟩
  refine Qah (Qah (QaH HM [some 17,some 18,some 19,some 20,some 21,some 22,some 23,some 24,some 25,some 26,some 27,some 28,some 29,some 30,some 31,some 32] [] [0,0,3,7,15,15,63,127,15,15,527,1807,3855,8191,16383,32767] [pv (I6 (i2:Int)),pv (I6 (hi:Int)),pv (.bool (decide ((i2:Int)<(hi:Int)))),pv (.bool (decide ((i2:Int)<(hi:Int)))),pg ((decide ((i2:Int)<(hi:Int))) == true) (.slice a N c),pg ((decide ((i2:Int)<(hi:Int))) == true) (I6 (i2:Int)),pg ((decide ((i2:Int)<(hi:Int))) == true) (.pointer (some ⟨bkS (.slice a N c),ofS (.slice a N c)+(i2:Int).toNat*1,none⟩)),pg ((decide ((i2:Int)<(hi:Int))) == true) (I7 (d1[i2]!)),pg ((decide ((i2:Int)<(hi:Int))) == true) (.slice a N c),pg ((decide ((i2:Int)<(hi:Int))) == true) (I6 (i2:Int)),pg ((decide ((i2:Int)<(hi:Int))) == true) (I6 ((i2-1:Nat):Int)),pg ((decide ((i2:Int)<(hi:Int))) == true) (.pointer (some ⟨bkS (.slice a N c),ofS (.slice a N c)+((i2-1:Nat):Int).toNat*1,none⟩)),pg ((decide ((i2:Int)<(hi:Int))) == true) (I7 (d1[i2-1]!)),pg ((decide ((i2:Int)<(hi:Int))) == true) (.bool (decide (d1[i2]!<d1[i2-1]!))),pg ((decide ((i2:Int)<(hi:Int))) == true) (.bool (!decide (d1[i2]!<d1[i2-1]!))),pv (.bool ((decide ((i2:Int)<(hi:Int)))&&(!decide (d1[i2]!<d1[i2-1]!))))] (fun _ _=>_) [15] (by kernel_rfl) hs ⟨?_,?_,?_,?_,?_,?_,?_,?_,?_,?_,?_,?_,?_,?_,?_,?_,trivial⟩ ?_))
  ·exact oa [] fun D J w hs=>Qac (V:=.int .i64 (i2:Int)) rfl (Zz hs)
  ·exact oa [] fun D J w hs=>Qac (V:=.int .i64 (hi:Int)) rfl (Zz hs)
  ·exact oa [0,1] fun D J w hs=>QaQ rfl rfl (Zz hs)
  ·exact oa [2] fun D J w hs=>Qac (V:=.bool (decide ((i2:Int)<(hi:Int)))) rfl (Zz hs)
  ·refine og [3] fun D J w hG hs=>?_
   have hgd:=QQ1 (eq_of_beq hG)
   exact Qac (V:=.slice a N c) rfl (Zz hs)
  ·refine og [3] fun D J w hG hs=>?_
   have hgd:=QQ1 (eq_of_beq hG)
   exact Qac (V:=.int .i64 (i2:Int)) rfl (Zz hs)
  ·refine oy [3,4,5] [4,5] fun D J w hG hs=>?_
   have hgd:=QQ1 (eq_of_beq hG)
   exact Qax QaI Qas.1 (hs.rd 0 rfl) rfl rfl (by omega) (by simp only [QQ6,QQ9,QQ5,Go.Sort.size_swp];omega) (Zz hs)
  ·refine oy [3,6] [6] fun D J w hG hs=>?_
   have hgd:=QQ1 (eq_of_beq hG)
   exact QaP (j:=0) (V:=.int .u16 (d1[i2]!)) i2 Qas (hs.rd 0 rfl) (Qbl (by omega)) rfl rfl (by omega) (Zz hs)
  ·refine og [3] fun D J w hG hs=>?_
   have hgd:=QQ1 (eq_of_beq hG)
   exact Qac (V:=.slice a N c) rfl (Zz hs)
  ·refine og [3] fun D J w hG hs=>?_
   have hgd:=QQ1 (eq_of_beq hG)
   exact Qac (V:=.int .i64 (i2:Int)) rfl (Zz hs)
  ·refine oy [3,9] [9] fun D J w hG hs=>?_
   have hgd:=QQ1 (eq_of_beq hG)
   exact Qa6 (a:=(i2:Int)) (b:=1) (c:=((i2-1:Nat):Int)) rfl rfl (Qak (by omega) (by omega)) (Zz hs)
  ·refine oy [3,8,10] [8,10] fun D J w hG hs=>?_
   have hgd:=QQ1 (eq_of_beq hG)
   exact Qax QaI Qas.1 (hs.rd 0 rfl) rfl rfl (by omega) (by simp only [QQ6,QQ9,QQ5,Go.Sort.size_swp];omega) (Zz hs)
  ·refine oy [3,11] [11] fun D J w hG hs=>?_
   have hgd:=QQ1 (eq_of_beq hG)
   exact QaP (j:=0) (V:=.int .u16 (d1[i2-1]!)) (i2-1) Qas (hs.rd 0 rfl) (Qbl (by omega)) rfl rfl (by omega) (Zz hs)
  ·refine oy [3,7,12] [7,12] fun D J w hG hs=>?_
   have hgd:=QQ1 (eq_of_beq hG)
   exact Qat (vs:=[.int .u16 (d1[i2]!),.int .u16 (d1[i2-1]!)]) (V:=.bool (decide (d1[i2]!<d1[i2-1]!))) Qc0 rfl rfl (Qcj _ (d1[i2]!) (d1[i2-1]!)) hs fun _ hs=>Zz hs
  ·refine oy [3,13] [13] fun D J w hG hs=>?_
   have hgd:=QQ1 (eq_of_beq hG)
   exact Qbw rfl (Zz hs)
  ·exact oa [3,14] fun D J w hs=>Qa2 (h':=!decide (d1[i2]!<d1[i2-1]!)) rfl rfl rfl (Zz hs)
  rintro J1 w5 J2 hJ hs
  replace hJ:J2=upd (mix (sq 17 16) J1 _) 32 (.bool ((decide ((i2:Int)<(hi:Int)))&&(!decide (d1[i2]!<d1[i2-1]!)))):=hJ
  subst hJ
  refine Qao (t:=(decide ((i2:Int)<(hi:Int)))&&(!decide (d1[i2]!<d1[i2-1]!))) rfl (fun c6=>?_) (fun c6=>?_)
  ·
   have c6r:=QbC c6
   replace c6:=QbA c6
   replace c6:=QQ1 c6
   replace c6r:=Qbp c6r
   replace c6r:=QQ2 c6r
   refine Qaq (Qan (Qab (Qaa (Qac (V:=I6 (i2:Int)) rfl (Qaa (QaD (a:=(i2:Int)) (b:=1) (c:=((i2+1:Nat):Int)) rfl rfl (Qak (by omega) (by omega)) (Qaa (Qad (V:=I6 ((i2+1:Nat):Int)) rfl (Qaf ?_)))))))))
   refine ⟨_,?_,_,i2+1,Qai (Qap (ds:=([7]++sq 17 18)) (by repeat (first|exact Agr.refl _ _|refine Agr.upd ?_ rfl|refine Agr.mix ?_ rfl))) rfl,(by omega),(by omega),(by rw [← hsc,Qtt c6 c6r]),rfl,hs.take 1⟩
   omega
  refine QaG (Qah (Qah ?_))
  have hi2e:i2=Sort.scanSorted ltInt d1 hi i:=by rw [← hsc,QuQ c6]
  refine Qab (Qaa (Qac (V:=I6 (i2:Int)) rfl (Qaa (Qac (V:=I6 (hi:Int)) rfl (Qaa (QaS rfl rfl (Qaf (Qao (t:=decide ((i2:Int)=(hi:Int))) rfl (fun c7=>?_) (fun c7=>?_)))))))))
  ·
   replace c7:=QQ1 c7
   refine Qah (Qab (Qaa (Qad (V:=.bool true) rfl (Qaf (Qav ?_)))))
   refine ⟨_,Qar (V:=.bool true) Tryz.results177 rfl,?_⟩
   have hX:Sort.partialInsertionSort ltInt d lo hi=(d1,true):=by rw [← hev,QiZ (q:=q) (by omega) hi2e,if_pos (by omega)]
   rw [hX]
   exact ⟨(),rfl,hs.take 1,hz1⟩
  replace c7:=QQ2 c7
  refine Qaq (Qah (Qah (Qab (Qaa (Qac (V:=I6 (hi:Int)) rfl (Qaa (Qac (V:=I6 (lo:Int)) rfl (Qaa (Qa6 (a:=(hi:Int)) (b:=(lo:Int)) (c:=((hi-lo:Nat):Int)) rfl rfl (Qak (by omega) (by omega)) (Qaa (QaQ rfl rfl (Qaf (Qao (t:=decide (((hi-lo:Nat):Int)<50)) rfl (fun c8=>?_) (fun c8=>?_))))))))))))))
  ·
   replace c8:=QQ1 c8
   refine Qah (Qab (Qaa (Qad (V:=.bool false) rfl (Qaf (Qav ?_)))))
   refine ⟨_,Qar (V:=.bool false) Tryz.results177 rfl,?_⟩
   have hX:Sort.partialInsertionSort ltInt d lo hi=(d1,false):=by rw [← hev,QiZ (q:=q) (by omega) hi2e,if_neg (by omega),if_pos (by omega)]
   rw [hX]
   exact ⟨(),rfl,hs.take 1,hz1⟩
  replace c8:=QQ2 c8
  refine Qaq (Qah (QaH HM [some 42,some 43,some 44,some 45,some 46,some 47,some 48,some 49,some 50,some 51,some 52,some 53,some 54,some 55,some 56,none,some 57,none] [] [0,0,0,0,8,0,0,64,224,480,0,0,3072,7168,16355,32739,65535,131071] [pv (.slice a N c),pv (I6 (i2:Int)),pv (.slice a N c),pv (I6 (i2:Int)),pv (I6 ((i2-1:Nat):Int)),pv (.slice a N c),pv (I6 (i2:Int)),pv (I6 ((i2-1:Nat):Int)),pv (.pointer (some ⟨bkS (.slice a N c),ofS (.slice a N c)+((i2-1:Nat):Int).toNat*1,none⟩)),pv (I7 (d1[i2-1]!)),pv (.slice a N c),pv (I6 (i2:Int)),pv (.pointer (some ⟨bkS (.slice a N c),ofS (.slice a N c)+(i2:Int).toNat*1,none⟩)),pv (I7 (d1[i2]!)),pv (.pointer (some ⟨bkS (.slice a N c),ofS (.slice a N c)+(i2:Int).toNat*1,none⟩)),pn,pv (.pointer (some ⟨bkS (.slice a N c),ofS (.slice a N c)+((i2-1:Nat):Int).toNat*1,none⟩)),pn] (fun D J=>[cond (D 17) (row (.slice a N c) ((((d1.setIfInBounds i2 (d1[i2-1]!)).setIfInBounds (i2-1) (d1[i2]!)).toList).map (ic .u16)) 32 1) (cond (D 15) (row (.slice a N c) (((d1.setIfInBounds i2 (d1[i2-1]!)).toList).map (ic .u16)) 32 1) (row (.slice a N c) (d1.toList.map (ic .u16)) 32 1))]) [] (by kernel_rfl) hs ⟨?_,?_,?_,?_,?_,?_,?_,?_,?_,?_,?_,?_,?_,?_,?_,?_,?_,?_,trivial⟩ ?_))
  ·exact oa [] fun D J w hs=>Qac (V:=.slice a N c) rfl (Zz hs)
  ·exact oa [] fun D J w hs=>Qac (V:=.int .i64 (i2:Int)) rfl (Zz hs)
  ·exact oa [] fun D J w hs=>Qac (V:=.slice a N c) rfl (Zz hs)
  ·exact oa [] fun D J w hs=>Qac (V:=.int .i64 (i2:Int)) rfl (Zz hs)
  ·exact oa [3] fun D J w hs=>Qa6 (a:=(i2:Int)) (b:=1) (c:=((i2-1:Nat):Int)) rfl rfl (Qak (by omega) (by omega)) (Zz hs)
  ·exact oa [] fun D J w hs=>Qac (V:=.slice a N c) rfl (Zz hs)
  ·exact oa [] fun D J w hs=>Qac (V:=.int .i64 (i2:Int)) rfl (Zz hs)
  ·exact oa [6] fun D J w hs=>Qa6 (a:=(i2:Int)) (b:=1) (c:=((i2-1:Nat):Int)) rfl rfl (Qak (by omega) (by omega)) (Zz hs)
  ·exact ob [5,7] [15,17] rfl rfl fun D J w hs=>Qax QaI Qas.1 (hs.rd 0 rfl) rfl rfl (by omega) (by simp only [QQ6,QQ9,QQ5,Go.Sort.size_swp];omega) (Zz hs)
  ·exact ob [8] [15,17] rfl rfl fun D J w hs=>QaP (j:=0) (V:=I7 (d1[i2-1]!)) (i2-1) Qas (hs.rd 0 rfl) (Qbl (by omega)) rfl rfl (by omega) (Zz hs)
  ·exact oa [] fun D J w hs=>Qac (V:=.slice a N c) rfl (Zz hs)
  ·exact oa [] fun D J w hs=>Qac (V:=.int .i64 (i2:Int)) rfl (Zz hs)
  ·exact ob [10,11] [15,17] rfl rfl fun D J w hs=>Qax QaI Qas.1 (hs.rd 0 rfl) rfl rfl (by omega) (by simp only [QQ6,QQ9,QQ5,Go.Sort.size_swp];omega) (Zz hs)
  ·exact ob [12] [15,17] rfl rfl fun D J w hs=>QaP (j:=0) (V:=I7 (d1[i2]!)) i2 Qas (hs.rd 0 rfl) (Qbl (by omega)) rfl rfl (by omega) (Zz hs)
  ·exact ob [0,1] [15,17] rfl rfl fun D J w hs=>Qax QaI Qas.1 (hs.rd 0 rfl) rfl rfl (by omega) (by simp only [QQ6,QQ9,QQ5,Go.Sort.size_swp];omega) (Zz hs)
  ·exact ob [9,14] [17] rfl rfl fun D J w hs=>Qce (z:=d1[i2-1]!) i2 Qas hs 0 rfl rfl (by omega) (by first|omega|(simp only [QQ5,Go.Sort.size_swp];omega)) rfl rfl rfl fun _ hs=>⟨trivial,hs⟩
  ·exact ob [2,4,15] [17] rfl rfl fun D J w hs=>Qax QaI Qas.1 (hs.rd 0 rfl) rfl rfl (by omega) (by simp only [QQ6,QQ9,QQ5,Go.Sort.size_swp];omega) (Zz hs)
  ·exact oa [13,15,16] fun D J w hs=>Qce (z:=d1[i2]!) (i2-1) Qas hs 0 rfl rfl (by omega) (by first|omega|(simp only [QQ5,Go.Sort.size_swp];omega)) rfl rfl rfl fun _ hs=>⟨trivial,hs⟩
  rintro J1 w11 J2 hJ hs
  replace hJ:J2=mix (sq 42 16) J1 _:=hJ
  replace hs:Own w S w11 [row (.slice a N c) ((((d1.setIfInBounds i2 (d1[i2-1]!)).setIfInBounds (i2-1) (d1[i2]!)).toList).map (ic .u16)) 32 1]:=hs
  subst hJ
  refine Qah (Qah (Qab (Qaa (Qac (V:=I6 (i2:Int)) rfl (Qaa (Qac (V:=I6 (lo:Int)) rfl (Qaa (Qa6 (a:=(i2:Int)) (b:=(lo:Int)) (c:=((i2-lo:Nat):Int)) rfl rfl (Qak (by omega) (by omega)) (Qaa (Qct rfl rfl (Qaf (Qgn (fun J J' w'=>∃ (Jo:Env) (d3:Array Int),J'=mix ([9]++sq 62 33) Jo J/\(d3=dnI lo i2 (Sort.swp d1 i2 (i2-1)))/\(d3.size=N)/\Own w S w' [row (.slice a N c) (d3.toList.map (ic .u16)) 32 1]) ?_ ?_))))))))))))
  ·
   refine Qao (t:=decide (2<=((i2-lo:Nat):Int))) rfl (fun c12=>?_) (fun c12=>?_)
   ·
    replace c12:=QQ1 c12
    refine Qah (Qab (Qaa (Qac (V:=I6 (i2:Int)) rfl (Qaa (Qa6 (a:=(i2:Int)) (b:=1) (c:=((i2-1:Nat):Int)) rfl rfl (Qak (by omega) (by omega)) (Qaa (Qad (V:=I6 ((i2-1:Nat):Int)) rfl (Qaf (Qan (QaA (fun J μ J' w'=>∃ (Jo:Env) (j:Nat) (d4:Array Int),J'=upd (mix ([9]++sq 64 31) Jo J) 9 (I6 (j:Int))/\(j<hi)/\(d4.size=N)/\(Sort.shiftDown ltInt j d4=Sort.shiftDown ltInt (i2-1) (Sort.swp d1 i2 (i2-1)))/\μ=2*j/\Own w S w' [row (.slice a N c) (d4.toList.map (ic .u16)) 32 1]) ?_ ?_))))))))))
    ·exact ⟨_,_,i2-1,((d1.setIfInBounds i2 (d1[i2-1]!)).setIfInBounds (i2-1) (d1[i2]!)),Qai (Qap (ds:=([9]++sq 64 31)) (Agr.refl _ _)) rfl,(by omega),(by simp only [QQ5];exact hz1),rfl,rfl,hs⟩
    rintro μ J' w13 ⟨Jo,j,d4,rfl,hj,hz4,hdn,rfl,hs⟩
    refine Qah (Qah (Qab (Qaa (Qac (V:=I6 (j:Int)) rfl (Qaa (Qct rfl rfl (Qaf (Qao (t:=decide (1<=(j:Int))) rfl (fun c14=>?_) (fun c14=>?_)))))))))
    ·
     replace c14:=QQ1 c14
     refine Qaq (Qah (Qan (Qah (Qah (QaH HM [some 68,some 69,some 70,some 71,some 72,some 73,some 74,some 75,some 76,some 77,some 78] [] [0,0,3,7,0,0,32,112,240,511,1023] [pv (.slice a N c),pv (I6 (j:Int)),pv (.pointer (some ⟨bkS (.slice a N c),ofS (.slice a N c)+(j:Int).toNat*1,none⟩)),pv (I7 (d4[j]!)),pv (.slice a N c),pv (I6 (j:Int)),pv (I6 ((j-1:Nat):Int)),pv (.pointer (some ⟨bkS (.slice a N c),ofS (.slice a N c)+((j-1:Nat):Int).toNat*1,none⟩)),pv (I7 (d4[j-1]!)),pv (.bool (decide (d4[j]!<d4[j-1]!))),pv (.bool (!decide (d4[j]!<d4[j-1]!)))] (fun _ _=>_) [10] (by kernel_rfl) hs ⟨?_,?_,?_,?_,?_,?_,?_,?_,?_,?_,?_,trivial⟩ ?_)))))
     ·exact oa [] fun D J w hs=>Qac (V:=.slice a N c) rfl (Zz hs)
     ·exact oa [] fun D J w hs=>Qac (V:=.int .i64 (j:Int)) rfl (Zz hs)
     ·exact oa [0,1] fun D J w hs=>Qax QaI Qas.1 (hs.rd 0 rfl) rfl rfl (by omega) (by simp only [QQ6,QQ9,QQ5,Go.Sort.size_swp];omega) (Zz hs)
     ·exact oa [2] fun D J w hs=>QaP (j:=0) (V:=.int .u16 (d4[j]!)) j Qas (hs.rd 0 rfl) (Qbl (by omega)) rfl rfl (by omega) (Zz hs)
     ·exact oa [] fun D J w hs=>Qac (V:=.slice a N c) rfl (Zz hs)
     ·exact oa [] fun D J w hs=>Qac (V:=.int .i64 (j:Int)) rfl (Zz hs)
     ·exact oa [5] fun D J w hs=>Qa6 (a:=(j:Int)) (b:=1) (c:=((j-1:Nat):Int)) rfl rfl (Qak (by omega) (by omega)) (Zz hs)
     ·exact oa [4,6] fun D J w hs=>Qax QaI Qas.1 (hs.rd 0 rfl) rfl rfl (by omega) (by simp only [QQ6,QQ9,QQ5,Go.Sort.size_swp];omega) (Zz hs)
     ·exact oa [7] fun D J w hs=>QaP (j:=0) (V:=.int .u16 (d4[j-1]!)) (j-1) Qas (hs.rd 0 rfl) (Qbl (by omega)) rfl rfl (by omega) (Zz hs)
     ·exact oa [3,8] fun D J w hs=>Qat (vs:=[.int .u16 (d4[j]!),.int .u16 (d4[j-1]!)]) (V:=.bool (decide (d4[j]!<d4[j-1]!))) Qc0 rfl rfl (Qcj _ (d4[j]!) (d4[j-1]!)) hs fun _ hs=>Zz hs
     ·exact oa [9] fun D J w hs=>Qbw rfl (Zz hs)
     rintro J1 w16 J2 hJ hs
     replace hJ:J2=upd (mix (sq 68 11) J1 _) 78 (.bool (!decide (d4[j]!<d4[j-1]!))):=hJ
     subst hJ
     refine Qao (t:=!decide (d4[j]!<d4[j-1]!)) rfl (fun c17=>?_) (fun c17=>?_)
     ·
      replace c17:=Qbp c17
      replace c17:=QQ2 c17
      refine QaG ?_
      exact ⟨_,d4,Qap (ds:=([9]++sq 62 33)) (by repeat (first|exact Agr.refl _ _|refine Agr.upd ?_ rfl|refine Agr.mix ?_ rfl)),(by unfold dnI;rw [if_pos (by omega),← hdn,Qve c17]),hz4,hs.take 1⟩
     replace c17:=Qbf c17
     replace c17:=QQ1 c17
     refine Qaq (QaH HM [some 79,some 80,some 81,some 82,some 83,some 84,some 85,some 86,some 87,some 88,some 89,some 90,some 91,some 92,some 93,none,some 94,none] [] [0,0,0,0,8,0,0,64,224,480,0,0,3072,7168,16355,32739,65535,131071] [pv (.slice a N c),pv (I6 (j:Int)),pv (.slice a N c),pv (I6 (j:Int)),pv (I6 ((j-1:Nat):Int)),pv (.slice a N c),pv (I6 (j:Int)),pv (I6 ((j-1:Nat):Int)),pv (.pointer (some ⟨bkS (.slice a N c),ofS (.slice a N c)+((j-1:Nat):Int).toNat*1,none⟩)),pv (I7 (d4[j-1]!)),pv (.slice a N c),pv (I6 (j:Int)),pv (.pointer (some ⟨bkS (.slice a N c),ofS (.slice a N c)+(j:Int).toNat*1,none⟩)),pv (I7 (d4[j]!)),pv (.pointer (some ⟨bkS (.slice a N c),ofS (.slice a N c)+(j:Int).toNat*1,none⟩)),pn,pv (.pointer (some ⟨bkS (.slice a N c),ofS (.slice a N c)+((j-1:Nat):Int).toNat*1,none⟩)),pn] (fun D J=>[cond (D 17) (row (.slice a N c) ((((d4.setIfInBounds j (d4[j-1]!)).setIfInBounds (j-1) (d4[j]!)).toList).map (ic .u16)) 32 1) (cond (D 15) (row (.slice a N c) (((d4.setIfInBounds j (d4[j-1]!)).toList).map (ic .u16)) 32 1) (row (.slice a N c) (d4.toList.map (ic .u16)) 32 1))]) [] (by kernel_rfl) hs ⟨?_,?_,?_,?_,?_,?_,?_,?_,?_,?_,?_,?_,?_,?_,?_,?_,?_,?_,trivial⟩ ?_)
     ·exact oa [] fun D J w hs=>Qac (V:=.slice a N c) rfl (Zz hs)
     ·exact oa [] fun D J w hs=>Qac (V:=.int .i64 (j:Int)) rfl (Zz hs)
     ·exact oa [] fun D J w hs=>Qac (V:=.slice a N c) rfl (Zz hs)
     ·exact oa [] fun D J w hs=>Qac (V:=.int .i64 (j:Int)) rfl (Zz hs)
     ·exact oa [3] fun D J w hs=>Qa6 (a:=(j:Int)) (b:=1) (c:=((j-1:Nat):Int)) rfl rfl (Qak (by omega) (by omega)) (Zz hs)
     ·exact oa [] fun D J w hs=>Qac (V:=.slice a N c) rfl (Zz hs)
     ·exact oa [] fun D J w hs=>Qac (V:=.int .i64 (j:Int)) rfl (Zz hs)
     ·exact oa [6] fun D J w hs=>Qa6 (a:=(j:Int)) (b:=1) (c:=((j-1:Nat):Int)) rfl rfl (Qak (by omega) (by omega)) (Zz hs)
     ·exact ob [5,7] [15,17] rfl rfl fun D J w hs=>Qax QaI Qas.1 (hs.rd 0 rfl) rfl rfl (by omega) (by simp only [QQ6,QQ9,QQ5,Go.Sort.size_swp];omega) (Zz hs)
     ·exact ob [8] [15,17] rfl rfl fun D J w hs=>QaP (j:=0) (V:=I7 (d4[j-1]!)) (j-1) Qas (hs.rd 0 rfl) (Qbl (by omega)) rfl rfl (by omega) (Zz hs)
     ·exact oa [] fun D J w hs=>Qac (V:=.slice a N c) rfl (Zz hs)
     ·exact oa [] fun D J w hs=>Qac (V:=.int .i64 (j:Int)) rfl (Zz hs)
     ·exact ob [10,11] [15,17] rfl rfl fun D J w hs=>Qax QaI Qas.1 (hs.rd 0 rfl) rfl rfl (by omega) (by simp only [QQ6,QQ9,QQ5,Go.Sort.size_swp];omega) (Zz hs)
     ·exact ob [12] [15,17] rfl rfl fun D J w hs=>QaP (j:=0) (V:=I7 (d4[j]!)) j Qas (hs.rd 0 rfl) (Qbl (by omega)) rfl rfl (by omega) (Zz hs)
     ·exact ob [0,1] [15,17] rfl rfl fun D J w hs=>Qax QaI Qas.1 (hs.rd 0 rfl) rfl rfl (by omega) (by simp only [QQ6,QQ9,QQ5,Go.Sort.size_swp];omega) (Zz hs)
     ·exact ob [9,14] [17] rfl rfl fun D J w hs=>Qce (z:=d4[j-1]!) j Qas hs 0 rfl rfl (by omega) (by first|omega|(simp only [QQ5,Go.Sort.size_swp];omega)) rfl rfl rfl fun _ hs=>⟨trivial,hs⟩
     ·exact ob [2,4,15] [17] rfl rfl fun D J w hs=>Qax QaI Qas.1 (hs.rd 0 rfl) rfl rfl (by omega) (by simp only [QQ6,QQ9,QQ5,Go.Sort.size_swp];omega) (Zz hs)
     ·exact oa [13,15,16] fun D J w hs=>Qce (z:=d4[j]!) (j-1) Qas hs 0 rfl rfl (by omega) (by first|omega|(simp only [QQ5,Go.Sort.size_swp];omega)) rfl rfl rfl fun _ hs=>⟨trivial,hs⟩
     rintro J1 w20 J2 hJ hs
     replace hJ:J2=mix (sq 79 16) J1 _:=hJ
     replace hs:Own w S w20 [row (.slice a N c) ((((d4.setIfInBounds j (d4[j-1]!)).setIfInBounds (j-1) (d4[j]!)).toList).map (ic .u16)) 32 1]:=hs
     subst hJ
     refine Qab (Qaa (Qac (V:=I6 (j:Int)) rfl (Qaa (Qa6 (a:=(j:Int)) (b:=1) (c:=((j-1:Nat):Int)) rfl rfl (Qak (by omega) (by omega)) (Qaa (Qad (V:=I6 ((j-1:Nat):Int)) rfl (Qaf ?_)))))))
     refine ⟨_,?_,_,j-1,((d4.setIfInBounds j (d4[j-1]!)).setIfInBounds (j-1) (d4[j]!)),Qai (Qap (ds:=([9]++sq 64 31)) (by repeat (first|exact Agr.refl _ _|refine Agr.upd ?_ rfl|refine Agr.mix ?_ rfl))) rfl,(by omega),(by simp only [QQ5];exact hz4),(by rw [← hdn,Qto c14 c17];rfl),rfl,hs.take 1⟩
     omega
    replace c14:=QQ2 c14
    refine QaG ?_
    exact ⟨_,d4,Qap (ds:=([9]++sq 62 33)) (by repeat (first|exact Agr.refl _ _|refine Agr.upd ?_ rfl|refine Agr.mix ?_ rfl)),(by unfold dnI;rw [if_pos (by omega),← hdn,Qwe c14]),hz4,hs.take 1⟩
   replace c12:=QQ2 c12
   refine Qaq ?_
   exact ⟨_,((d1.setIfInBounds i2 (d1[i2-1]!)).setIfInBounds (i2-1) (d1[i2]!)),Qap (ds:=([9]++sq 62 33)) (by repeat (first|exact Agr.refl _ _|refine Agr.upd ?_ rfl|refine Agr.mix ?_ rfl)),(by unfold dnI;rw [if_neg (by omega)];rfl),(by simp only [QQ5];exact hz1),hs.take 1⟩
  rintro J' w21 ⟨Jo,d3,rfl,hd3,hz3,hs⟩
  refine Qah (Qab (Qaa (Qac (V:=I6 (hi:Int)) rfl (Qaa (Qac (V:=I6 (i2:Int)) rfl (Qaa (Qa6 (a:=(hi:Int)) (b:=(i2:Int)) (c:=((hi-i2:Nat):Int)) rfl rfl (Qak (by omega) (by omega)) (Qaa (Qct rfl rfl (Qaf (Qgn (fun J J' w'=>∃ (Jo:Env) (d5:Array Int),J'=mix ([10]++sq 99 34) Jo J/\(d5=upI hi i2 d3)/\(d5.size=N)/\Own w S w' [row (.slice a N c) (d5.toList.map (ic .u16)) 32 1]) ?_ ?_)))))))))))
  ·
   refine Qao (t:=decide (2<=((hi-i2:Nat):Int))) rfl (fun c22=>?_) (fun c22=>?_)
   ·
    replace c22:=QQ1 c22
    refine Qah (Qab (Qaa (Qac (V:=I6 (i2:Int)) rfl (Qaa (QaD (a:=(i2:Int)) (b:=1) (c:=((i2+1:Nat):Int)) rfl rfl (Qak (by omega) (by omega)) (Qaa (Qad (V:=I6 ((i2+1:Nat):Int)) rfl (Qaf (Qan (QaA (fun J μ J' w'=>∃ (Jo:Env) (p:Nat) (d6:Array Int),J'=upd (mix ([10]++sq 101 32) Jo J) 10 (I6 (p:Int))/\(i2<p/\p<=hi)/\(d6.size=N)/\(Sort.shiftUp ltInt hi p d6=Sort.shiftUp ltInt hi (i2+1) d3)/\μ=hi-p/\Own w S w' [row (.slice a N c) (d6.toList.map (ic .u16)) 32 1]) ?_ ?_))))))))))
    ·exact ⟨_,_,i2+1,d3,Qai (Qap (ds:=([10]++sq 101 32)) (Agr.refl _ _)) rfl,(by omega),hz3,rfl,rfl,hs⟩
    rintro μ J' w23 ⟨Jo,p,d6,rfl,hp,hz6,hup,rfl,hs⟩
    refine Qah (Qah (Qab (Qaa (Qac (V:=I6 (p:Int)) rfl (Qaa (Qac (V:=I6 (hi:Int)) rfl (Qaa (QaQ rfl rfl (Qaf (Qao (t:=decide ((p:Int)<(hi:Int))) rfl (fun c24=>?_) (fun c24=>?_)))))))))))
    ·
     replace c24:=QQ1 c24
     refine Qaq (Qah (Qan (Qah (Qah (QaH HM [some 106,some 107,some 108,some 109,some 110,some 111,some 112,some 113,some 114,some 115,some 116] [] [0,0,3,7,0,0,32,112,240,511,1023] [pv (.slice a N c),pv (I6 (p:Int)),pv (.pointer (some ⟨bkS (.slice a N c),ofS (.slice a N c)+(p:Int).toNat*1,none⟩)),pv (I7 (d6[p]!)),pv (.slice a N c),pv (I6 (p:Int)),pv (I6 ((p-1:Nat):Int)),pv (.pointer (some ⟨bkS (.slice a N c),ofS (.slice a N c)+((p-1:Nat):Int).toNat*1,none⟩)),pv (I7 (d6[p-1]!)),pv (.bool (decide (d6[p]!<d6[p-1]!))),pv (.bool (!decide (d6[p]!<d6[p-1]!)))] (fun _ _=>_) [10] (by kernel_rfl) hs ⟨?_,?_,?_,?_,?_,?_,?_,?_,?_,?_,?_,trivial⟩ ?_)))))
     ·exact oa [] fun D J w hs=>Qac (V:=.slice a N c) rfl (Zz hs)
     ·exact oa [] fun D J w hs=>Qac (V:=.int .i64 (p:Int)) rfl (Zz hs)
     ·exact oa [0,1] fun D J w hs=>Qax QaI Qas.1 (hs.rd 0 rfl) rfl rfl (by omega) (by simp only [QQ6,QQ9,QQ5,Go.Sort.size_swp];omega) (Zz hs)
     ·exact oa [2] fun D J w hs=>QaP (j:=0) (V:=.int .u16 (d6[p]!)) p Qas (hs.rd 0 rfl) (Qbl (by omega)) rfl rfl (by omega) (Zz hs)
     ·exact oa [] fun D J w hs=>Qac (V:=.slice a N c) rfl (Zz hs)
     ·exact oa [] fun D J w hs=>Qac (V:=.int .i64 (p:Int)) rfl (Zz hs)
     ·exact oa [5] fun D J w hs=>Qa6 (a:=(p:Int)) (b:=1) (c:=((p-1:Nat):Int)) rfl rfl (Qak (by omega) (by omega)) (Zz hs)
     ·exact oa [4,6] fun D J w hs=>Qax QaI Qas.1 (hs.rd 0 rfl) rfl rfl (by omega) (by simp only [QQ6,QQ9,QQ5,Go.Sort.size_swp];omega) (Zz hs)
     ·exact oa [7] fun D J w hs=>QaP (j:=0) (V:=.int .u16 (d6[p-1]!)) (p-1) Qas (hs.rd 0 rfl) (Qbl (by omega)) rfl rfl (by omega) (Zz hs)
     ·exact oa [3,8] fun D J w hs=>Qat (vs:=[.int .u16 (d6[p]!),.int .u16 (d6[p-1]!)]) (V:=.bool (decide (d6[p]!<d6[p-1]!))) Qc0 rfl rfl (Qcj _ (d6[p]!) (d6[p-1]!)) hs fun _ hs=>Zz hs
     ·exact oa [9] fun D J w hs=>Qbw rfl (Zz hs)
     rintro J1 w26 J2 hJ hs
     replace hJ:J2=upd (mix (sq 106 11) J1 _) 116 (.bool (!decide (d6[p]!<d6[p-1]!))):=hJ
     subst hJ
     refine Qao (t:=!decide (d6[p]!<d6[p-1]!)) rfl (fun c27=>?_) (fun c27=>?_)
     ·
      replace c27:=Qbp c27
      replace c27:=QQ2 c27
      refine QaG ?_
      exact ⟨_,d6,Qap (ds:=([10]++sq 99 34)) (by repeat (first|exact Agr.refl _ _|refine Agr.upd ?_ rfl|refine Agr.mix ?_ rfl)),(by unfold upI;rw [if_pos (by omega),← hup,Quq c24 c27]),hz6,hs.take 1⟩
     replace c27:=Qbf c27
     replace c27:=QQ1 c27
     refine Qaq (QaH HM [some 117,some 118,some 119,some 120,some 121,some 122,some 123,some 124,some 125,some 126,some 127,some 128,some 129,some 130,some 131,none,some 132,none] [] [0,0,0,0,8,0,0,64,224,480,0,0,3072,7168,16355,32739,65535,131071] [pv (.slice a N c),pv (I6 (p:Int)),pv (.slice a N c),pv (I6 (p:Int)),pv (I6 ((p-1:Nat):Int)),pv (.slice a N c),pv (I6 (p:Int)),pv (I6 ((p-1:Nat):Int)),pv (.pointer (some ⟨bkS (.slice a N c),ofS (.slice a N c)+((p-1:Nat):Int).toNat*1,none⟩)),pv (I7 (d6[p-1]!)),pv (.slice a N c),pv (I6 (p:Int)),pv (.pointer (some ⟨bkS (.slice a N c),ofS (.slice a N c)+(p:Int).toNat*1,none⟩)),pv (I7 (d6[p]!)),pv (.pointer (some ⟨bkS (.slice a N c),ofS (.slice a N c)+(p:Int).toNat*1,none⟩)),pn,pv (.pointer (some ⟨bkS (.slice a N c),ofS (.slice a N c)+((p-1:Nat):Int).toNat*1,none⟩)),pn] (fun D J=>[cond (D 17) (row (.slice a N c) ((((d6.setIfInBounds p (d6[p-1]!)).setIfInBounds (p-1) (d6[p]!)).toList).map (ic .u16)) 32 1) (cond (D 15) (row (.slice a N c) (((d6.setIfInBounds p (d6[p-1]!)).toList).map (ic .u16)) 32 1) (row (.slice a N c) (d6.toList.map (ic .u16)) 32 1))]) [] (by kernel_rfl) hs ⟨?_,?_,?_,?_,?_,?_,?_,?_,?_,?_,?_,?_,?_,?_,?_,?_,?_,?_,trivial⟩ ?_)
     ·exact oa [] fun D J w hs=>Qac (V:=.slice a N c) rfl (Zz hs)
     ·exact oa [] fun D J w hs=>Qac (V:=.int .i64 (p:Int)) rfl (Zz hs)
     ·exact oa [] fun D J w hs=>Qac (V:=.slice a N c) rfl (Zz hs)
     ·exact oa [] fun D J w hs=>Qac (V:=.int .i64 (p:Int)) rfl (Zz hs)
     ·exact oa [3] fun D J w hs=>Qa6 (a:=(p:Int)) (b:=1) (c:=((p-1:Nat):Int)) rfl rfl (Qak (by omega) (by omega)) (Zz hs)
     ·exact oa [] fun D J w hs=>Qac (V:=.slice a N c) rfl (Zz hs)
     ·exact oa [] fun D J w hs=>Qac (V:=.int .i64 (p:Int)) rfl (Zz hs)
     ·exact oa [6] fun D J w hs=>Qa6 (a:=(p:Int)) (b:=1) (c:=((p-1:Nat):Int)) rfl rfl (Qak (by omega) (by omega)) (Zz hs)
     ·exact ob [5,7] [15,17] rfl rfl fun D J w hs=>Qax QaI Qas.1 (hs.rd 0 rfl) rfl rfl (by omega) (by simp only [QQ6,QQ9,QQ5,Go.Sort.size_swp];omega) (Zz hs)
     ·exact ob [8] [15,17] rfl rfl fun D J w hs=>QaP (j:=0) (V:=I7 (d6[p-1]!)) (p-1) Qas (hs.rd 0 rfl) (Qbl (by omega)) rfl rfl (by omega) (Zz hs)
     ·exact oa [] fun D J w hs=>Qac (V:=.slice a N c) rfl (Zz hs)
     ·exact oa [] fun D J w hs=>Qac (V:=.int .i64 (p:Int)) rfl (Zz hs)
     ·exact ob [10,11] [15,17] rfl rfl fun D J w hs=>Qax QaI Qas.1 (hs.rd 0 rfl) rfl rfl (by omega) (by simp only [QQ6,QQ9,QQ5,Go.Sort.size_swp];omega) (Zz hs)
     ·exact ob [12] [15,17] rfl rfl fun D J w hs=>QaP (j:=0) (V:=I7 (d6[p]!)) p Qas (hs.rd 0 rfl) (Qbl (by omega)) rfl rfl (by omega) (Zz hs)
     ·exact ob [0,1] [15,17] rfl rfl fun D J w hs=>Qax QaI Qas.1 (hs.rd 0 rfl) rfl rfl (by omega) (by simp only [QQ6,QQ9,QQ5,Go.Sort.size_swp];omega) (Zz hs)
     ·exact ob [9,14] [17] rfl rfl fun D J w hs=>Qce (z:=d6[p-1]!) p Qas hs 0 rfl rfl (by omega) (by first|omega|(simp only [QQ5,Go.Sort.size_swp];omega)) rfl rfl rfl fun _ hs=>⟨trivial,hs⟩
     ·exact ob [2,4,15] [17] rfl rfl fun D J w hs=>Qax QaI Qas.1 (hs.rd 0 rfl) rfl rfl (by omega) (by simp only [QQ6,QQ9,QQ5,Go.Sort.size_swp];omega) (Zz hs)
     ·exact oa [13,15,16] fun D J w hs=>Qce (z:=d6[p]!) (p-1) Qas hs 0 rfl rfl (by omega) (by first|omega|(simp only [QQ5,Go.Sort.size_swp];omega)) rfl rfl rfl fun _ hs=>⟨trivial,hs⟩
     rintro J1 w30 J2 hJ hs
     replace hJ:J2=mix (sq 117 16) J1 _:=hJ
     replace hs:Own w S w30 [row (.slice a N c) ((((d6.setIfInBounds p (d6[p-1]!)).setIfInBounds (p-1) (d6[p]!)).toList).map (ic .u16)) 32 1]:=hs
     subst hJ
     refine Qab (Qaa (Qac (V:=I6 (p:Int)) rfl (Qaa (QaD (a:=(p:Int)) (b:=1) (c:=((p+1:Nat):Int)) rfl rfl (Qak (by omega) (by omega)) (Qaa (Qad (V:=I6 ((p+1:Nat):Int)) rfl (Qaf ?_)))))))
     refine ⟨_,?_,_,p+1,((d6.setIfInBounds p (d6[p-1]!)).setIfInBounds (p-1) (d6[p]!)),Qai (Qap (ds:=([10]++sq 101 32)) (by repeat (first|exact Agr.refl _ _|refine Agr.upd ?_ rfl|refine Agr.mix ?_ rfl))) rfl,(by omega),(by simp only [QQ5];exact hz6),(by rw [← hup,QtA c24 c27];rfl),rfl,hs.take 1⟩
     omega
    replace c24:=QQ2 c24
    refine QaG ?_
    exact ⟨_,d6,Qap (ds:=([10]++sq 99 34)) (by repeat (first|exact Agr.refl _ _|refine Agr.upd ?_ rfl|refine Agr.mix ?_ rfl)),(by unfold upI;rw [if_pos (by omega),← hup,Qwd c24]),hz6,hs.take 1⟩
   replace c22:=QQ2 c22
   refine Qaq ?_
   exact ⟨_,d3,Qap (ds:=([10]++sq 99 34)) (by repeat (first|exact Agr.refl _ _|refine Agr.upd ?_ rfl|refine Agr.mix ?_ rfl)),(by unfold upI;rw [if_neg (by omega)]),hz3,hs.take 1⟩
  rintro J' w31 ⟨Jo,d5,rfl,hd5,hz5,hs⟩
  refine Qab (Qaa (Qac (V:=I6 (q:Int)) rfl (Qaa (QaD (a:=(q:Int)) (b:=1) (c:=((q+1:Nat):Int)) rfl rfl (Qak (by omega) (by omega)) (Qaa (Qad (V:=I6 ((q+1:Nat):Int)) rfl (Qaf ?_)))))))
  refine ⟨_,?_,_,q+1,i2,d5,Qai (Qai (Qap (ds:=([6,7,8,9,10]++sq 13 120)) (by repeat (first|exact Agr.refl _ _|refine Agr.upd ?_ rfl|refine Agr.mix ?_ rfl))) rfl) rfl,(by omega),(by omega),(by omega),hz5,(by rw [← hev,QiZ (q:=q) (by omega) hi2e,if_neg (by omega),if_neg (by omega),hd5,hd3]),rfl,hs.take 1⟩
  omega
 replace c2:=QQ2 c2
 refine QaG (Qah (Qab (Qaa (Qad (V:=.bool false) rfl (Qaf (Qav ?_))))))
 refine ⟨_,Qar (V:=.bool false) Tryz.results177 rfl,?_⟩
 have hq5:q=5:=by omega
 subst hq5
 have hX:Sort.partialInsertionSort ltInt d lo hi=(d1,false):=hev.symm
 rw [hX]
 exact ⟨(),rfl,hs.take 1,hz1⟩
end Tt
end Go.Proofs
namespace Go.Proofs
open Go Go.Vx Go.RowKit
open Go.Sort (ltInt medianAdjacent order2 partition)
namespace Tt
section
variable {p:Int->Bool} {b:Bool} {i j:Nat} {d:Array Int}
theorem Qmc (hb:b=p d[i]!) (h:(i:Int)<=(j:Int)) (h2:b=true):Sort.scanUp p d j i=Sort.scanUp p d j (i+1):=by
 rw [Sort.scanUp,if_pos]
 rw [← hb,h2,Bool.and_true];exact QQ3 (by omega)
theorem Qqj (hb:b=p d[i]!) (h:(decide ((i:Int)<=(j:Int))&&b)=false):Sort.scanUp p d j i=i:=by
 rw [Sort.scanUp,if_neg]
 rw [← hb]
 intro h2
 rw [Bool.and_eq_true,decide_eq_true_iff] at h2
 rw [h2.2,Bool.and_true,decide_eq_false_iff_not] at h
 exact h (by omega)
theorem QmP (h0:1<=j) (hb:b=p d[j]!) (h:(i:Int)<=(j:Int)) (h2:b=true):Sort.scanDown p d i j=Sort.scanDown p d i (j-1):=by
 obtain ⟨k,rfl⟩:∃ k,j=k+1:=⟨j-1,by omega⟩
 rw [Sort.scanDown,if_pos]
 ·rfl
 rw [← hb,h2,Bool.and_true];exact QQ3 (by omega)
theorem Qru (hb:b=p d[j]!) (h:(decide ((i:Int)<=(j:Int))&&b)=false):Sort.scanDown p d i j=j:=by
 cases j with
 | zero=>rfl
 | succ k =>
  rw [Sort.scanDown,if_neg]
  rw [← hb]
  intro h2
  rw [Bool.and_eq_true,decide_eq_true_iff] at h2
  rw [h2.2,Bool.and_true,decide_eq_false_iff_not] at h
  exact h (by omega)
theorem Qrt {lo i2 j2:Nat} (hi:i2=Sort.scanUp (fun x=>!ltInt d[lo]! x) d j i) (hj:j2=Sort.scanDown (fun x=>ltInt d[lo]! x) d i2 j) (h:(j2:Int)<(i2:Int)):Sort.partEqLoop ltInt lo i j d=(i2,d):=by
 rw [Sort.partEqLoop_eq,← hi,← hj,if_pos (by omega)]
theorem QuR {lo i2 j2:Nat} (hi:i2=Sort.scanUp (fun x=>!ltInt d[lo]! x) d j i) (hj:j2=Sort.scanDown (fun x=>ltInt d[lo]! x) d i2 j) (h:¬(j2:Int)<(i2:Int)):Sort.partEqLoop ltInt lo i j d=Sort.partEqLoop ltInt lo (i2+1) (j2-1) (Sort.swp d i2 j2):=by
 rw [Sort.partEqLoop_eq,← hi,← hj,if_neg (by omega)]
theorem Qrf {lo i2 j2:Nat} (hi:i2=Sort.scanUp (fun x=>ltInt x d[lo]!) d j i) (hj:j2=Sort.scanDown (fun x=>!ltInt x d[lo]!) d i2 j) (h:(j2:Int)<(i2:Int)):Sort.partLoop ltInt lo i j d=(j2,d):=by
 rw [Sort.partLoop_eq,← hi,← hj,if_pos (by omega)]
theorem QvN {lo i2 j2:Nat} (hi:i2=Sort.scanUp (fun x=>ltInt x d[lo]!) d j i) (hj:j2=Sort.scanDown (fun x=>!ltInt x d[lo]!) d i2 j) (h:¬(j2:Int)<(i2:Int)):Sort.partLoop ltInt lo i j d=Sort.partLoop ltInt lo (i2+1) (j2-1) (Sort.swp d i2 j2):=by
 rw [Sort.partLoop_eq,← hi,← hj,if_neg (by omega)]
theorem Qrj {lo hi pvx i2 j2:Nat} {D:Array Int} (hD:D=Sort.swp d lo pvx) (h1:i2=Sort.scanUp (fun x=>ltInt x D[lo]!) D (hi-1) (lo+1)) (h2:j2=Sort.scanDown (fun x=>!ltInt x D[lo]!) D i2 (hi-1)) (h:(j2:Int)<(i2:Int)):partition ltInt d lo hi pvx=(j2,true,Sort.swp D j2 lo):=by
 subst hD;unfold partition;dsimp only;rw [← h1,← h2,if_pos (by omega)]
theorem Qvv {lo hi pvx i2 j2:Nat} {D:Array Int} (hD:D=Sort.swp d lo pvx) (h1:i2=Sort.scanUp (fun x=>ltInt x D[lo]!) D (hi-1) (lo+1)) (h2:j2=Sort.scanDown (fun x=>!ltInt x D[lo]!) D i2 (hi-1)) (h:¬(j2:Int)<(i2:Int)):partition ltInt d lo hi pvx=((Sort.partLoop ltInt lo (i2+1) (j2-1) (Sort.swp D i2 j2)).1,false,Sort.swp (Sort.partLoop ltInt lo (i2+1) (j2-1) (Sort.swp D i2 j2)).2 (Sort.partLoop ltInt lo (i2+1) (j2-1) (Sort.swp D i2 j2)).1 lo):=by
 subst hD;unfold partition;dsimp only;rw [← h1,← h2,if_neg (by omega)]
end
theorem Qu0 (w:World) (S:Nat->Prop) (a:Option Addr) (N c:Nat) (d:Array Int) (hsz:d.size=N) (hN:N<=2305843009213693951) (lo hi pvx:Nat) (h1:lo<=pvx) (h2:pvx<hi) (h3:hi<=N) (hR:(row (.slice a N c) (d.toList.map (ic .u16)) 32 1).holds w S) (hlt:∀ x,S x->x<w.heap.size):Calls Tryz.prog 179 #[.slice a N c,.int .i64 (lo:Int),.int .i64 (hi:Int),.int .i64 (pvx:Int)] w (fun e w'=>∃ _u:Unit,e = .returned (.int .i64 (((Sort.partitionEqual ltInt d lo hi pvx).1:Nat):Int))/\Own w S w' [row (.slice a N c) (((Sort.partitionEqual ltInt d lo hi pvx).2).toList.map (ic .u16)) 32 1]/\(Sort.partitionEqual ltInt d lo hi pvx).2.size=N):=by
 refine Qaj (n:=84) Tryz.func179 rfl Tryz.ntmps179 rfl ?_
 have hs:=Own.lent hR hlt
 refine Qah (Qab (Qaa (Qad (V:=I6 0) rfl (Qaf (Qah (QaH HM [some 11,some 12,some 13,some 14,some 15,some 16,some 17,some 18,some 19,some 20,some 21,some 22,some 23,none,some 24,none] [] [0,0,0,0,0,0,48,112,0,0,768,1792,4083,8179,16383,32767] [pv (.slice a N c),pv (I6 (lo:Int)),pv (.slice a N c),pv (I6 (pvx:Int)),pv (.slice a N c),pv (I6 (pvx:Int)),pv (.pointer (some ⟨bkS (.slice a N c),ofS (.slice a N c)+(pvx:Int).toNat*1,none⟩)),pv (I7 (d[pvx]!)),pv (.slice a N c),pv (I6 (lo:Int)),pv (.pointer (some ⟨bkS (.slice a N c),ofS (.slice a N c)+(lo:Int).toNat*1,none⟩)),pv (I7 (d[lo]!)),pv (.pointer (some ⟨bkS (.slice a N c),ofS (.slice a N c)+(lo:Int).toNat*1,none⟩)),pn,pv (.pointer (some ⟨bkS (.slice a N c),ofS (.slice a N c)+(pvx:Int).toNat*1,none⟩)),pn] (fun D J=>[cond (D 15) (row (.slice a N c) ((((d.setIfInBounds lo (d[pvx]!)).setIfInBounds pvx (d[lo]!)).toList).map (ic .u16)) 32 1) (cond (D 13) (row (.slice a N c) (((d.setIfInBounds lo (d[pvx]!)).toList).map (ic .u16)) 32 1) (row (.slice a N c) (d.toList.map (ic .u16)) 32 1))]) [] (by kernel_rfl) hs ⟨?_,?_,?_,?_,?_,?_,?_,?_,?_,?_,?_,?_,?_,?_,?_,?_,trivial⟩ ?_))))))
 ·exact oa [] fun D J w hs=>Qac (V:=.slice a N c) rfl (Zz hs)
 ·exact oa [] fun D J w hs=>Qac (V:=.int .i64 (lo:Int)) rfl (Zz hs)
 ·exact oa [] fun D J w hs=>Qac (V:=.slice a N c) rfl (Zz hs)
 ·exact oa [] fun D J w hs=>Qac (V:=.int .i64 (pvx:Int)) rfl (Zz hs)
 ·exact oa [] fun D J w hs=>Qac (V:=.slice a N c) rfl (Zz hs)
 ·exact oa [] fun D J w hs=>Qac (V:=.int .i64 (pvx:Int)) rfl (Zz hs)
 ·exact ob [4,5] [13,15] rfl rfl fun D J w hs=>Qax QaI Qas.1 (hs.rd 0 rfl) rfl rfl (by omega) (by simp only [QQ6,QQ9,QQ5,Go.Sort.size_swp];omega) (Zz hs)
 ·exact ob [6] [13,15] rfl rfl fun D J w hs=>QaP (j:=0) (V:=I7 (d[pvx]!)) pvx Qas (hs.rd 0 rfl) (Qbl (by omega)) rfl rfl (by omega) (Zz hs)
 ·exact oa [] fun D J w hs=>Qac (V:=.slice a N c) rfl (Zz hs)
 ·exact oa [] fun D J w hs=>Qac (V:=.int .i64 (lo:Int)) rfl (Zz hs)
 ·exact ob [8,9] [13,15] rfl rfl fun D J w hs=>Qax QaI Qas.1 (hs.rd 0 rfl) rfl rfl (by omega) (by simp only [QQ6,QQ9,QQ5,Go.Sort.size_swp];omega) (Zz hs)
 ·exact ob [10] [13,15] rfl rfl fun D J w hs=>QaP (j:=0) (V:=I7 (d[lo]!)) lo Qas (hs.rd 0 rfl) (Qbl (by omega)) rfl rfl (by omega) (Zz hs)
 ·exact ob [0,1] [13,15] rfl rfl fun D J w hs=>Qax QaI Qas.1 (hs.rd 0 rfl) rfl rfl (by omega) (by simp only [QQ6,QQ9,QQ5,Go.Sort.size_swp];omega) (Zz hs)
 ·exact ob [7,12] [15] rfl rfl fun D J w hs=>Qce (z:=d[pvx]!) lo Qas hs 0 rfl rfl (by omega) (by first|omega|(simp only [QQ5,Go.Sort.size_swp];omega)) rfl rfl rfl fun _ hs=>⟨trivial,hs⟩
 ·exact ob [2,3,13] [15] rfl rfl fun D J w hs=>Qax QaI Qas.1 (hs.rd 0 rfl) rfl rfl (by omega) (by simp only [QQ6,QQ9,QQ5,Go.Sort.size_swp];omega) (Zz hs)
 ·exact oa [11,13,14] fun D J w hs=>Qce (z:=d[lo]!) pvx Qas hs 0 rfl rfl (by omega) (by first|omega|(simp only [QQ5,Go.Sort.size_swp];omega)) rfl rfl rfl fun _ hs=>⟨trivial,hs⟩
 rintro J1 w3 J2 hJ hs
 replace hJ:J2=mix (sq 11 14) J1 _:=hJ
 replace hs:Own w S w3 [row (.slice a N c) ((((d.setIfInBounds lo (d[pvx]!)).setIfInBounds pvx (d[lo]!)).toList).map (ic .u16)) 32 1]:=hs
 subst hJ
 refine Qah (Qab (Qaa (Qac (V:=I6 (lo:Int)) rfl (Qaa (QaD (a:=(lo:Int)) (b:=1) (c:=((lo+1:Nat):Int)) rfl rfl (Qak (by omega) (by omega)) (Qaa (Qac (V:=I6 (hi:Int)) rfl (Qaa (Qa6 (a:=(hi:Int)) (b:=1) (c:=((hi-1:Nat):Int)) rfl rfl (Qak (by omega) (by omega)) (Qaa (Qad (V:=I6 ((lo+1:Nat):Int)) rfl (Qaa (Qad (V:=I6 ((hi-1:Nat):Int)) rfl (Qaf (Qah (Qan (QaA (fun J μ J' w'=>∃ (Jo:Env) (i:Nat) (j:Nat) (d1:Array Int),J'=upd (upd (mix ([9,10]++sq 29 54) Jo J) 9 (I6 (i:Int))) 10 (I6 (j:Int))/\(lo+1<=i)/\(i<=hi+1)/\(j<hi)/\(d1.size=N)/\(Sort.partEqLoop ltInt lo i j d1=Sort.partitionEqual ltInt d lo hi pvx)/\μ=j+1-i/\Own w S w' [row (.slice a N c) (d1.toList.map (ic .u16)) 32 1]) ?_ ?_)))))))))))))))))
 ·exact ⟨_,_,lo+1,hi-1,(Sort.swp d lo pvx),Qai (Qai (Qap (ds:=([9,10]++sq 29 54)) (Agr.refl _ _)) rfl) rfl,(Nat.le_refl _),(by omega),(by omega),(by rw [Go.Sort.size_swp];exact hsz),rfl,rfl,hs⟩
 rintro μ J' w4 ⟨Jo,i,j,d1,rfl,hi0,hi1,hj,hz1,hev,rfl,hs⟩
 refine Qan (Qah (Qan (QaA (fun J μ J' w'=>∃ (Jo:Env) (i2:Nat),J'=upd (mix ([9]++sq 29 17) Jo J) 9 (I6 (i2:Int))/\(i<=i2)/\(i2<=hi+1)/\(Sort.scanUp (fun x=>!ltInt d1[lo]! x) d1 (j) i2=Sort.scanUp (fun x=>!ltInt d1[lo]! x) d1 (j) (i))/\μ=j+1-i2/\Own w S w' [row (.slice a N c) (d1.toList.map (ic .u16)) 32 1]) ?_ ?_)))
 ·exact ⟨_,_,i,Qai (Qap (ds:=([9]++sq 29 17)) (Agr.refl _ _)) rfl,(Nat.le_refl _),(by omega),rfl,rfl,hs⟩
 rintro μ J' w5 ⟨Jo,i2,rfl,hi2a,hi2b,hsu,rfl,hs⟩
 refine Qah (Qah (QaH HM [some 29,some 30,some 31,some 32,some 33,some 34,some 35,some 36,some 37,some 38,some 39,some 40,some 41,some 42,some 43] [] [0,0,3,7,15,15,63,127,15,15,783,1807,4095,8191,16383] [pv (I6 (i2:Int)),pv (I6 (j:Int)),pv (.bool (decide ((i2:Int)<=(j:Int)))),pv (.bool (decide ((i2:Int)<=(j:Int)))),pg ((decide ((i2:Int)<=(j:Int))) == true) (.slice a N c),pg ((decide ((i2:Int)<=(j:Int))) == true) (I6 (lo:Int)),pg ((decide ((i2:Int)<=(j:Int))) == true) (.pointer (some ⟨bkS (.slice a N c),ofS (.slice a N c)+(lo:Int).toNat*1,none⟩)),pg ((decide ((i2:Int)<=(j:Int))) == true) (I7 (d1[lo]!)),pg ((decide ((i2:Int)<=(j:Int))) == true) (.slice a N c),pg ((decide ((i2:Int)<=(j:Int))) == true) (I6 (i2:Int)),pg ((decide ((i2:Int)<=(j:Int))) == true) (.pointer (some ⟨bkS (.slice a N c),ofS (.slice a N c)+(i2:Int).toNat*1,none⟩)),pg ((decide ((i2:Int)<=(j:Int))) == true) (I7 (d1[i2]!)),pg ((decide ((i2:Int)<=(j:Int))) == true) (.bool (decide (d1[lo]!<d1[i2]!))),pg ((decide ((i2:Int)<=(j:Int))) == true) (.bool (!decide (d1[lo]!<d1[i2]!))),pv (.bool ((decide ((i2:Int)<=(j:Int)))&&(!decide (d1[lo]!<d1[i2]!))))] (fun _ _=>_) [14] (by kernel_rfl) hs ⟨?_,?_,?_,?_,?_,?_,?_,?_,?_,?_,?_,?_,?_,?_,?_,trivial⟩ ?_))
 ·exact oa [] fun D J w hs=>Qac (V:=.int .i64 (i2:Int)) rfl (Zz hs)
 ·exact oa [] fun D J w hs=>Qac (V:=.int .i64 (j:Int)) rfl (Zz hs)
 ·exact oa [0,1] fun D J w hs=>Qc6 rfl rfl (Zz hs)
 ·exact oa [2] fun D J w hs=>Qac (V:=.bool (decide ((i2:Int)<=(j:Int)))) rfl (Zz hs)
 ·refine og [3] fun D J w hG hs=>?_
  have hgd:=QQ1 (eq_of_beq hG)
  exact Qac (V:=.slice a N c) rfl (Zz hs)
 ·refine og [3] fun D J w hG hs=>?_
  have hgd:=QQ1 (eq_of_beq hG)
  exact Qac (V:=.int .i64 (lo:Int)) rfl (Zz hs)
 ·refine oy [3,4,5] [4,5] fun D J w hG hs=>?_
  have hgd:=QQ1 (eq_of_beq hG)
  exact Qax QaI Qas.1 (hs.rd 0 rfl) rfl rfl (by omega) (by simp only [QQ6,QQ9,QQ5,Go.Sort.size_swp];omega) (Zz hs)
 ·refine oy [3,6] [6] fun D J w hG hs=>?_
  have hgd:=QQ1 (eq_of_beq hG)
  exact QaP (j:=0) (V:=.int .u16 (d1[lo]!)) lo Qas (hs.rd 0 rfl) (Qbl (by omega)) rfl rfl (by omega) (Zz hs)
 ·refine og [3] fun D J w hG hs=>?_
  have hgd:=QQ1 (eq_of_beq hG)
  exact Qac (V:=.slice a N c) rfl (Zz hs)
 ·refine og [3] fun D J w hG hs=>?_
  have hgd:=QQ1 (eq_of_beq hG)
  exact Qac (V:=.int .i64 (i2:Int)) rfl (Zz hs)
 ·refine oy [3,8,9] [8,9] fun D J w hG hs=>?_
  have hgd:=QQ1 (eq_of_beq hG)
  exact Qax QaI Qas.1 (hs.rd 0 rfl) rfl rfl (by omega) (by simp only [QQ6,QQ9,QQ5,Go.Sort.size_swp];omega) (Zz hs)
 ·refine oy [3,10] [10] fun D J w hG hs=>?_
  have hgd:=QQ1 (eq_of_beq hG)
  exact QaP (j:=0) (V:=.int .u16 (d1[i2]!)) i2 Qas (hs.rd 0 rfl) (Qbl (by omega)) rfl rfl (by omega) (Zz hs)
 ·refine oy [3,7,11] [7,11] fun D J w hG hs=>?_
  have hgd:=QQ1 (eq_of_beq hG)
  exact Qat (vs:=[.int .u16 (d1[lo]!),.int .u16 (d1[i2]!)]) (V:=.bool (decide (d1[lo]!<d1[i2]!))) Qc0 rfl rfl (Qcj _ (d1[lo]!) (d1[i2]!)) hs fun _ hs=>Zz hs
 ·refine oy [3,12] [12] fun D J w hG hs=>?_
  have hgd:=QQ1 (eq_of_beq hG)
  exact Qbw rfl (Zz hs)
 ·exact oa [3,13] fun D J w hs=>Qa2 (h':=!decide (d1[lo]!<d1[i2]!)) rfl rfl rfl (Zz hs)
 rintro J1 w7 J2 hJ hs
 replace hJ:J2=upd (mix (sq 29 15) J1 _) 43 (.bool ((decide ((i2:Int)<=(j:Int)))&&(!decide (d1[lo]!<d1[i2]!)))):=hJ
 subst hJ
 refine Qao (t:=(decide ((i2:Int)<=(j:Int)))&&(!decide (d1[lo]!<d1[i2]!))) rfl (fun c8=>?_) (fun c8=>?_)
 ·
  have c8r:=QbC c8
  replace c8:=QbA c8
  replace c8:=QQ1 c8
  replace c8r:=Qbp c8r
  replace c8r:=QQ2 c8r
  refine Qaq (Qan (Qab (Qaa (Qac (V:=I6 (i2:Int)) rfl (Qaa (QaD (a:=(i2:Int)) (b:=1) (c:=((i2+1:Nat):Int)) rfl rfl (Qak (by omega) (by omega)) (Qaa (Qad (V:=I6 ((i2+1:Nat):Int)) rfl (Qaf ?_)))))))))
  refine ⟨_,?_,_,i2+1,Qai (Qap (ds:=([9]++sq 29 17)) (by repeat (first|exact Agr.refl _ _|refine Agr.upd ?_ rfl|refine Agr.mix ?_ rfl))) rfl,(by omega),(by omega),(by rw [← hsu,Qmc (p:=fun x=>!ltInt d1[lo]! x) (b:=!decide (d1[lo]!<d1[i2]!)) rfl c8 (by rw [QQ4 c8r];rfl)]),rfl,hs.take 1⟩
  omega
 refine QaG (Qah (Qan ?_))
 have hi2:i2=Sort.scanUp (fun x=>!ltInt d1[lo]! x) d1 j i:=by rw [← hsu,Qqj (p:=fun x=>!ltInt d1[lo]! x) (b:=!decide (d1[lo]!<d1[i2]!)) rfl c8]
 refine QaA (fun J μ J' w'=>∃ (Jo:Env) (j2:Nat),J'=upd (mix ([10]++sq 46 16) Jo J) 10 (I6 (j2:Int))/\(j2<=j)/\(Sort.scanDown (fun x=>ltInt d1[lo]! x) d1 i2 j2=Sort.scanDown (fun x=>ltInt d1[lo]! x) d1 i2 (j))/\μ=2*j2/\Own w S w' [row (.slice a N c) (d1.toList.map (ic .u16)) 32 1]) ?_ ?_
 ·exact ⟨_,_,j,Qai (Qap (ds:=([10]++sq 46 16)) (Agr.refl _ _)) rfl,(Nat.le_refl _),rfl,rfl,hs⟩
 rintro μ J' w9 ⟨Jo,j2,rfl,hj2b,hsd,rfl,hs⟩
 refine Qah (Qah (QaH HM [some 46,some 47,some 48,some 49,some 50,some 51,some 52,some 53,some 54,some 55,some 56,some 57,some 58,some 59] [] [0,0,3,7,15,15,63,127,15,15,783,1807,4095,8191] [pv (I6 (i2:Int)),pv (I6 (j2:Int)),pv (.bool (decide ((i2:Int)<=(j2:Int)))),pv (.bool (decide ((i2:Int)<=(j2:Int)))),pg ((decide ((i2:Int)<=(j2:Int))) == true) (.slice a N c),pg ((decide ((i2:Int)<=(j2:Int))) == true) (I6 (lo:Int)),pg ((decide ((i2:Int)<=(j2:Int))) == true) (.pointer (some ⟨bkS (.slice a N c),ofS (.slice a N c)+(lo:Int).toNat*1,none⟩)),pg ((decide ((i2:Int)<=(j2:Int))) == true) (I7 (d1[lo]!)),pg ((decide ((i2:Int)<=(j2:Int))) == true) (.slice a N c),pg ((decide ((i2:Int)<=(j2:Int))) == true) (I6 (j2:Int)),pg ((decide ((i2:Int)<=(j2:Int))) == true) (.pointer (some ⟨bkS (.slice a N c),ofS (.slice a N c)+(j2:Int).toNat*1,none⟩)),pg ((decide ((i2:Int)<=(j2:Int))) == true) (I7 (d1[j2]!)),pg ((decide ((i2:Int)<=(j2:Int))) == true) (.bool (decide (d1[lo]!<d1[j2]!))),pv (.bool ((decide ((i2:Int)<=(j2:Int)))&&(decide (d1[lo]!<d1[j2]!))))] (fun _ _=>_) [13] (by kernel_rfl) hs ⟨?_,?_,?_,?_,?_,?_,?_,?_,?_,?_,?_,?_,?_,?_,trivial⟩ ?_))
 ·exact oa [] fun D J w hs=>Qac (V:=.int .i64 (i2:Int)) rfl (Zz hs)
 ·exact oa [] fun D J w hs=>Qac (V:=.int .i64 (j2:Int)) rfl (Zz hs)
 ·exact oa [0,1] fun D J w hs=>Qc6 rfl rfl (Zz hs)
 ·exact oa [2] fun D J w hs=>Qac (V:=.bool (decide ((i2:Int)<=(j2:Int)))) rfl (Zz hs)
 ·refine og [3] fun D J w hG hs=>?_
  have hgd:=QQ1 (eq_of_beq hG)
  exact Qac (V:=.slice a N c) rfl (Zz hs)
 ·refine og [3] fun D J w hG hs=>?_
  have hgd:=QQ1 (eq_of_beq hG)
  exact Qac (V:=.int .i64 (lo:Int)) rfl (Zz hs)
 ·refine oy [3,4,5] [4,5] fun D J w hG hs=>?_
  have hgd:=QQ1 (eq_of_beq hG)
  exact Qax QaI Qas.1 (hs.rd 0 rfl) rfl rfl (by omega) (by simp only [QQ6,QQ9,QQ5,Go.Sort.size_swp];omega) (Zz hs)
 ·refine oy [3,6] [6] fun D J w hG hs=>?_
  have hgd:=QQ1 (eq_of_beq hG)
  exact QaP (j:=0) (V:=.int .u16 (d1[lo]!)) lo Qas (hs.rd 0 rfl) (Qbl (by omega)) rfl rfl (by omega) (Zz hs)
 ·refine og [3] fun D J w hG hs=>?_
  have hgd:=QQ1 (eq_of_beq hG)
  exact Qac (V:=.slice a N c) rfl (Zz hs)
 ·refine og [3] fun D J w hG hs=>?_
  have hgd:=QQ1 (eq_of_beq hG)
  exact Qac (V:=.int .i64 (j2:Int)) rfl (Zz hs)
 ·refine oy [3,8,9] [8,9] fun D J w hG hs=>?_
  have hgd:=QQ1 (eq_of_beq hG)
  exact Qax QaI Qas.1 (hs.rd 0 rfl) rfl rfl (by omega) (by simp only [QQ6,QQ9,QQ5,Go.Sort.size_swp];omega) (Zz hs)
 ·refine oy [3,10] [10] fun D J w hG hs=>?_
  have hgd:=QQ1 (eq_of_beq hG)
  exact QaP (j:=0) (V:=.int .u16 (d1[j2]!)) j2 Qas (hs.rd 0 rfl) (Qbl (by omega)) rfl rfl (by omega) (Zz hs)
 ·refine oy [3,7,11] [7,11] fun D J w hG hs=>?_
  have hgd:=QQ1 (eq_of_beq hG)
  exact Qat (vs:=[.int .u16 (d1[lo]!),.int .u16 (d1[j2]!)]) (V:=.bool (decide (d1[lo]!<d1[j2]!))) Qc0 rfl rfl (Qcj _ (d1[lo]!) (d1[j2]!)) hs fun _ hs=>Zz hs
 ·exact oa [3,12] fun D J w hs=>Qa2 (h':=decide (d1[lo]!<d1[j2]!)) rfl rfl rfl (Zz hs)
 rintro J1 w11 J2 hJ hs
 replace hJ:J2=upd (mix (sq 46 14) J1 _) 59 (.bool ((decide ((i2:Int)<=(j2:Int)))&&(decide (d1[lo]!<d1[j2]!)))):=hJ
 subst hJ
 refine Qao (t:=(decide ((i2:Int)<=(j2:Int)))&&(decide (d1[lo]!<d1[j2]!))) rfl (fun c12=>?_) (fun c12=>?_)
 ·
  have c12r:=QbC c12
  replace c12:=QbA c12
  replace c12:=QQ1 c12
  replace c12r:=QQ1 c12r
  refine Qaq (Qan (Qab (Qaa (Qac (V:=I6 (j2:Int)) rfl (Qaa (Qa6 (a:=(j2:Int)) (b:=1) (c:=((j2-1:Nat):Int)) rfl rfl (Qak (by omega) (by omega)) (Qaa (Qad (V:=I6 ((j2-1:Nat):Int)) rfl (Qaf ?_)))))))))
  refine ⟨_,?_,_,j2-1,Qai (Qap (ds:=([10]++sq 46 16)) (by repeat (first|exact Agr.refl _ _|refine Agr.upd ?_ rfl|refine Agr.mix ?_ rfl))) rfl,(by omega),(by rw [← hsd,QmP (p:=fun x=>ltInt d1[lo]! x) (b:=decide (d1[lo]!<d1[j2]!)) (by omega) rfl c12 (QQ3 c12r)]),rfl,hs.take 1⟩
  omega
 refine QaG (Qah (Qah ?_))
 have hj2:j2=Sort.scanDown (fun x=>ltInt d1[lo]! x) d1 i2 j:=by rw [← hsd,Qru (p:=fun x=>ltInt d1[lo]! x) (b:=decide (d1[lo]!<d1[j2]!)) rfl c12]
 refine Qab (Qaa (Qac (V:=I6 (i2:Int)) rfl (Qaa (Qac (V:=I6 (j2:Int)) rfl (Qaa (QbP rfl rfl (Qaf (Qao (t:=decide ((j2:Int)<(i2:Int))) rfl (fun c13=>?_) (fun c13=>?_)))))))))
 ·
  replace c13:=QQ1 c13
  refine QaG (Qah (Qab (Qaa (Qac (V:=I6 (i2:Int)) rfl (Qaa (Qad (V:=I6 (i2:Int)) rfl (Qaf (Qav ?_))))))))
  refine ⟨_,Qar (V:=I6 (i2:Int)) Tryz.results179 rfl,?_⟩
  have hX:Sort.partitionEqual ltInt d lo hi pvx=(i2,d1):=by rw [← hev,Qrt hi2 hj2 c13]
  rw [hX]
  exact ⟨(),rfl,hs.take 1,hz1⟩
 replace c13:=QQ2 c13
 refine Qaq (Qah (QaH HM [some 65,some 66,some 67,some 68,some 69,some 70,some 71,some 72,some 73,some 74,some 75,some 76,some 77,none,some 78,none] [] [0,0,0,0,0,0,48,112,0,0,768,1792,4083,8179,16383,32767] [pv (.slice a N c),pv (I6 (i2:Int)),pv (.slice a N c),pv (I6 (j2:Int)),pv (.slice a N c),pv (I6 (j2:Int)),pv (.pointer (some ⟨bkS (.slice a N c),ofS (.slice a N c)+(j2:Int).toNat*1,none⟩)),pv (I7 (d1[j2]!)),pv (.slice a N c),pv (I6 (i2:Int)),pv (.pointer (some ⟨bkS (.slice a N c),ofS (.slice a N c)+(i2:Int).toNat*1,none⟩)),pv (I7 (d1[i2]!)),pv (.pointer (some ⟨bkS (.slice a N c),ofS (.slice a N c)+(i2:Int).toNat*1,none⟩)),pn,pv (.pointer (some ⟨bkS (.slice a N c),ofS (.slice a N c)+(j2:Int).toNat*1,none⟩)),pn] (fun D J=>[cond (D 15) (row (.slice a N c) ((((d1.setIfInBounds i2 (d1[j2]!)).setIfInBounds j2 (d1[i2]!)).toList).map (ic .u16)) 32 1) (cond (D 13) (row (.slice a N c) (((d1.setIfInBounds i2 (d1[j2]!)).toList).map (ic .u16)) 32 1) (row (.slice a N c) (d1.toList.map (ic .u16)) 32 1))]) [] (by kernel_rfl) hs ⟨?_,?_,?_,?_,?_,?_,?_,?_,?_,?_,?_,?_,?_,?_,?_,?_,trivial⟩ ?_))
 ·exact oa [] fun D J w hs=>Qac (V:=.slice a N c) rfl (Zz hs)
 ·exact oa [] fun D J w hs=>Qac (V:=.int .i64 (i2:Int)) rfl (Zz hs)
 ·exact oa [] fun D J w hs=>Qac (V:=.slice a N c) rfl (Zz hs)
 ·exact oa [] fun D J w hs=>Qac (V:=.int .i64 (j2:Int)) rfl (Zz hs)
 ·exact oa [] fun D J w hs=>Qac (V:=.slice a N c) rfl (Zz hs)
 ·exact oa [] fun D J w hs=>Qac (V:=.int .i64 (j2:Int)) rfl (Zz hs)
 ·exact ob [4,5] [13,15] rfl rfl fun D J w hs=>Qax QaI Qas.1 (hs.rd 0 rfl) rfl rfl (by omega) (by simp only [QQ6,QQ9,QQ5,Go.Sort.size_swp];omega) (Zz hs)
 ·exact ob [6] [13,15] rfl rfl fun D J w hs=>QaP (j:=0) (V:=I7 (d1[j2]!)) j2 Qas (hs.rd 0 rfl) (Qbl (by omega)) rfl rfl (by omega) (Zz hs)
 ·exact oa [] fun D J w hs=>Qac (V:=.slice a N c) rfl (Zz hs)
 ·exact oa [] fun D J w hs=>Qac (V:=.int .i64 (i2:Int)) rfl (Zz hs)
 ·exact ob [8,9] [13,15] rfl rfl fun D J w hs=>Qax QaI Qas.1 (hs.rd 0 rfl) rfl rfl (by omega) (by simp only [QQ6,QQ9,QQ5,Go.Sort.size_swp];omega) (Zz hs)
 ·exact ob [10] [13,15] rfl rfl fun D J w hs=>QaP (j:=0) (V:=I7 (d1[i2]!)) i2 Qas (hs.rd 0 rfl) (Qbl (by omega)) rfl rfl (by omega) (Zz hs)
 ·exact ob [0,1] [13,15] rfl rfl fun D J w hs=>Qax QaI Qas.1 (hs.rd 0 rfl) rfl rfl (by omega) (by simp only [QQ6,QQ9,QQ5,Go.Sort.size_swp];omega) (Zz hs)
 ·exact ob [7,12] [15] rfl rfl fun D J w hs=>Qce (z:=d1[j2]!) i2 Qas hs 0 rfl rfl (by omega) (by first|omega|(simp only [QQ5,Go.Sort.size_swp];omega)) rfl rfl rfl fun _ hs=>⟨trivial,hs⟩
 ·exact ob [2,3,13] [15] rfl rfl fun D J w hs=>Qax QaI Qas.1 (hs.rd 0 rfl) rfl rfl (by omega) (by simp only [QQ6,QQ9,QQ5,Go.Sort.size_swp];omega) (Zz hs)
 ·exact oa [11,13,14] fun D J w hs=>Qce (z:=d1[i2]!) j2 Qas hs 0 rfl rfl (by omega) (by first|omega|(simp only [QQ5,Go.Sort.size_swp];omega)) rfl rfl rfl fun _ hs=>⟨trivial,hs⟩
 rintro J1 w16 J2 hJ hs
 replace hJ:J2=mix (sq 65 14) J1 _:=hJ
 replace hs:Own w S w16 [row (.slice a N c) ((((d1.setIfInBounds i2 (d1[j2]!)).setIfInBounds j2 (d1[i2]!)).toList).map (ic .u16)) 32 1]:=hs
 subst hJ
 refine Qah (Qab (Qaa (Qac (V:=I6 (i2:Int)) rfl (Qaa (QaD (a:=(i2:Int)) (b:=1) (c:=((i2+1:Nat):Int)) rfl rfl (Qak (by omega) (by omega)) (Qaa (Qad (V:=I6 ((i2+1:Nat):Int)) rfl (Qaf (Qab (Qaa (Qac (V:=I6 (j2:Int)) rfl (Qaa (Qa6 (a:=(j2:Int)) (b:=1) (c:=((j2-1:Nat):Int)) rfl rfl (Qak (by omega) (by omega)) (Qaa (Qad (V:=I6 ((j2-1:Nat):Int)) rfl (Qaf ?_))))))))))))))))
 refine ⟨_,?_,_,i2+1,j2-1,((d1.setIfInBounds i2 (d1[j2]!)).setIfInBounds j2 (d1[i2]!)),Qai (Qai (Qap (ds:=([9,10]++sq 29 54)) (by repeat (first|exact Agr.refl _ _|refine Agr.upd ?_ rfl|refine Agr.mix ?_ rfl))) rfl) rfl,(by omega),(by omega),(by omega),(by simp only [QQ5];exact hz1),(by rw [← hev,QuR hi2 hj2 c13];rfl),rfl,hs.take 1⟩
 omega
end Tt
end Go.Proofs
