/- A part of a proof: what functions of the program compute, and plain facts on that. -/
import Derived.Test.YthbbcjimiemdgaaGreatCartFoldP7
set_option linter.unusedVariables false
set_option linter.unusedSimpArgs false
set_option maxHeartbeats 4000000
set_option maxRecDepth 100000
namespace Go.Proofs
open Go Go.Vx Go.RowKit
open Go.Sort (ltInt medianAdjacent order2 partition)
namespace Tt
section
variable {hi first r:Nat} {d:Array Int}
theorem QpK (h:(hi:Int)≤((2*r+1:Nat):Int)):Sort.siftDown ltInt hi first r d=d:=by rw [Sort.siftDown,dif_pos (by omega)]
theorem Qux (h:¬(hi:Int)≤((2*r+1:Nat):Int)) (h1:(((2*r+1)+1:Nat):Int)<(hi:Int)) (h2:d[first+(2*r+1)]!<d[(first+(2*r+1))+1]!) :
  Sort.siftDown ltInt hi first r d=if d[first+r]!<d[first+((2*r+1)+1)]! then Sort.siftDown ltInt hi first ((2*r+1)+1) (Sort.swp d (first+r) (first+((2*r+1)+1))) else d:=by
 rw [Sort.siftDown,dif_neg (by omega),if_pos (by simp only [ltInt,h2,decide_true,Bool.and_true,decide_eq_true_eq];omega)]
 by_cases h3:d[first+r]!<d[first+(2*r+2)]!
 ·rw [if_neg (by simp [ltInt,h3]),dif_pos (by omega)]
  show _=if d[first+r]!<d[first+(2*r+2)]! then Sort.siftDown ltInt hi first (2*r+2) (Sort.swp d (first+r) (first+(2*r+2))) else d
  rw [if_pos h3]
 ·rw [if_pos (by simp only [ltInt,Bool.not_eq_true',decide_eq_false_iff_not];exact h3)]
  show _=if d[first+r]!<d[first+(2*r+2)]! then Sort.siftDown ltInt hi first (2*r+2) (Sort.swp d (first+r) (first+(2*r+2))) else d
  rw [if_neg h3]
theorem QuC (h:¬(hi:Int)≤((2*r+1:Nat):Int)) (h1:(decide ((((2*r+1)+1:Nat):Int)<(hi:Int))&&decide (d[first+(2*r+1)]!<d[(first+(2*r+1))+1]!))=false) :
  Sort.siftDown ltInt hi first r d=if d[first+r]!<d[first+(2*r+1)]! then Sort.siftDown ltInt hi first (2*r+1) (Sort.swp d (first+r) (first+(2*r+1))) else d:=by
 rw [Sort.siftDown,dif_neg (by omega),if_neg]
 ·by_cases h3:d[first+r]!<d[first+(2*r+1)]!
  ·rw [if_neg (by simp [ltInt,h3]),if_pos h3]
  ·rw [if_pos (by simp only [ltInt,Bool.not_eq_true',decide_eq_false_iff_not];exact h3),if_neg h3]
 ·intro h2
  rw [Bool.and_eq_true,decide_eq_true_iff] at h2
  rw [Bool.and_eq_false_iff,decide_eq_false_iff_not,decide_eq_false_iff_not] at h1
  rcases h1 with h1|h1
  ·exact h1 (by omega)
  ·exact h1 (by simpa [ltInt] using h2.2)
end
theorem Qml (w:World) (S:Nat→Prop) (a:Option Addr) (N c:Nat) (d:Array Int) (hsz:d.size=N) (hN:N≤2305843009213693951) (lo hi first:Nat) (h1:lo≤N) (h2:first+hi≤N) (hR:(row (.slice a N c) (d.toList.map (ic .u16)) 31 1).holds w S) (hlt:∀ x,S x→x<w.heap.size):Calls Tryz.prog 145 #[.slice a N c,.int .i64 (lo:Int),.int .i64 (hi:Int),.int .i64 (first:Int)] w (fun e w'=>∃ x:Unit,e = .returned (.tuple #[])∧Own w S w' [row (.slice a N c) ((Sort.siftDown ltInt hi first lo d).toList.map (ic .u16)) 31 1]∧(Sort.siftDown ltInt hi first lo d).size=N):=by
 refine Qai (n:=76) Tryz.func145 rfl Tryz.ntmps145 rfl ?_
 have hs:=Own.lent hR hlt
 refine Qag (Qab (Qaa (Qac (V:=I6 (lo:Int)) rfl (Qaa (Qad (V:=I6 (lo:Int)) rfl (Qae (Qak (Qax (fun ρ μ ρ' w'=>∃ (ρo:Env) (r:Nat) (d1:Array Int),ρ'=upd (mix [8,9,11,12,13,14,15,16,17,18,19,20,21,22,23,24,25,26,27,28,29,30,31,32,33,34,35,36,37,38,39,40,41,42,43,44,45,46,47,48,49,50,51,52,53,54,55,56,57,58,59,60,61,62,63,64,65,66,67,68,69,70,71,72,73,74,75] ρo ρ) 8 (I6 (r:Int))∧(r≤N)∧(d1.size=N)∧(Sort.siftDown ltInt hi first r d1=Sort.siftDown ltInt hi first lo d)∧μ=hi-r∧Own w S w' [row (.slice a N c) (d1.toList.map (ic .u16)) 31 1]) ?_ ?_))))))))
 ·exact ⟨_,_,lo,d,Qah (Qam (ds:=[8,9,11,12,13,14,15,16,17,18,19,20,21,22,23,24,25,26,27,28,29,30,31,32,33,34,35,36,37,38,39,40,41,42,43,44,45,46,47,48,49,50,51,52,53,54,55,56,57,58,59,60,61,62,63,64,65,66,67,68,69,70,71,72,73,74,75]) (Agr.refl _ _)) rfl,(by omega),hsz,rfl,rfl,hs⟩
 ·rintro μ ρ' w1 ⟨ρo,r,d1,rfl,hr0,hz1,hev,rfl,hs⟩
  refine Qak (Qag (Qab (Qaa (Qac (V:=I6 (r:Int)) rfl (Qaa (Qgk (a:=2) (b:=(r:Int)) (c:=((2*r:Nat):Int)) rfl rfl (Qaj (by omega) (by omega)) (Qaa (Qav (a:=((2*r:Nat):Int)) (b:=1) (c:=(((2*r)+1:Nat):Int)) rfl rfl (Qaj (by omega) (by omega)) (Qaa (Qad (V:=I6 (((2*r)+1:Nat):Int)) rfl (Qae (Qag (Qag (Qab (Qaa (Qac (V:=I6 (((2*r)+1:Nat):Int)) rfl (Qaa (Qac (V:=I6 (hi:Int)) rfl (Qaa (QcN rfl rfl (Qae (Qal (t:=decide ((hi:Int)≤(((2*r)+1:Nat):Int))) rfl (fun c2=>?_) (fun c2=>?_)))))))))))))))))))))))
  ·
   replace c2:=QQ1 c2
   refine Qaz ?_
   refine ⟨_,Qbo Tryz.results145,?_⟩
   have hX:d1=Sort.siftDown ltInt hi first lo d:=by rw [← hev,QpK c2]
   exact ⟨(),rfl,hX ▸ hs.take 1,hX ▸ (by first|assumption|(simp only [QQ5,Go.Sort.size_swp];omega))⟩
  ·
   replace c2:=QQ2 c2
   refine Qan (Qag (Qag (QaC HM [some 17,some 18,some 19,some 20,some 21,some 22,some 23,some 24,some 25,some 26,some 27,some 28,some 29,some 30,some 31,some 32,some 33,some 34,some 35,some 36] [] [0,1,0,7,15,31,31,31,223,511,1023,31,31,31,12319,28703,63519,129055,262143,524287] [pv (I6 (((2*r)+1:Nat):Int)),pv (I6 ((((2*r)+1)+1:Nat):Int)),pv (I6 (hi:Int)),pv (.bool (decide (((((2*r)+1)+1:Nat):Int)<(hi:Int)))),pv (.bool (decide (((((2*r)+1)+1:Nat):Int)<(hi:Int)))),pg ((decide (((((2*r)+1)+1:Nat):Int)<(hi:Int))) == true) (.slice a N c),pg ((decide (((((2*r)+1)+1:Nat):Int)<(hi:Int))) == true) (I6 (first:Int)),pg ((decide (((((2*r)+1)+1:Nat):Int)<(hi:Int))) == true) (I6 (((2*r)+1:Nat):Int)),pg ((decide (((((2*r)+1)+1:Nat):Int)<(hi:Int))) == true) (I6 ((first+((2*r)+1):Nat):Int)),pg ((decide (((((2*r)+1)+1:Nat):Int)<(hi:Int))) == true) (.pointer (some ⟨bkS (.slice a N c),ofS (.slice a N c)+((first+((2*r)+1):Nat):Int).toNat*1,none⟩)),pg ((decide (((((2*r)+1)+1:Nat):Int)<(hi:Int))) == true) (I7 (d1[first+((2*r)+1)]!)),pg ((decide (((((2*r)+1)+1:Nat):Int)<(hi:Int))) == true) (.slice a N c),pg ((decide (((((2*r)+1)+1:Nat):Int)<(hi:Int))) == true) (I6 (first:Int)),pg ((decide (((((2*r)+1)+1:Nat):Int)<(hi:Int))) == true) (I6 (((2*r)+1:Nat):Int)),pg ((decide (((((2*r)+1)+1:Nat):Int)<(hi:Int))) == true) (I6 ((first+((2*r)+1):Nat):Int)),pg ((decide (((((2*r)+1)+1:Nat):Int)<(hi:Int))) == true) (I6 (((first+((2*r)+1))+1:Nat):Int)),pg ((decide (((((2*r)+1)+1:Nat):Int)<(hi:Int))) == true) (.pointer (some ⟨bkS (.slice a N c),ofS (.slice a N c)+(((first+((2*r)+1))+1:Nat):Int).toNat*1,none⟩)),pg ((decide (((((2*r)+1)+1:Nat):Int)<(hi:Int))) == true) (I7 (d1[(first+((2*r)+1))+1]!)),pg ((decide (((((2*r)+1)+1:Nat):Int)<(hi:Int))) == true) (.bool (decide (d1[first+((2*r)+1)]!<d1[(first+((2*r)+1))+1]!))),pv (.bool ((decide (((((2*r)+1)+1:Nat):Int)<(hi:Int)))&&(decide (d1[first+((2*r)+1)]!<d1[(first+((2*r)+1))+1]!))))] (fun _ _=>_) [19] (by kernel_rfl) hs ⟨?_,?_,?_,?_,?_,?_,?_,?_,?_,?_,?_,?_,?_,?_,?_,?_,?_,?_,?_,?_,trivial⟩ ?_)))
   ·exact ob [] [] rfl rfl fun D ρ w hs=>Qac (V:=I6 (((2*r)+1:Nat):Int)) rfl ⟨rfl,hs⟩
   ·exact ob [0] [] rfl rfl fun D ρ w hs=>Qav (a:=(((2*r)+1:Nat):Int)) (b:=1) (c:=((((2*r)+1)+1:Nat):Int)) rfl rfl (Qaj (by omega) (by omega)) ⟨rfl,hs⟩
   ·exact ob [] [] rfl rfl fun D ρ w hs=>Qac (V:=I6 (hi:Int)) rfl ⟨rfl,hs⟩
   ·exact ob [1,2] [] rfl rfl fun D ρ w hs=>QaP rfl rfl ⟨rfl,hs⟩
   ·exact ob [3] [] rfl rfl fun D ρ w hs=>Qac (V:=.bool (decide (((((2*r)+1)+1:Nat):Int)<(hi:Int)))) rfl ⟨rfl,hs⟩
   ·refine obg [4] [] (decide (((((2*r)+1)+1:Nat):Int)<(hi:Int))) rfl (fun _=>rfl) rfl (fun _ _ _ _ h=>h) fun D ρ w hG hs=>?_
    have hgd:=QQ1 (eq_of_beq hG)
    exact Qac (V:=.slice a N c) rfl ⟨rfl,hs⟩
   ·refine obg [4] [] (decide (((((2*r)+1)+1:Nat):Int)<(hi:Int))) rfl (fun _=>rfl) rfl (fun _ _ _ _ h=>h) fun D ρ w hG hs=>?_
    have hgd:=QQ1 (eq_of_beq hG)
    exact Qac (V:=.int .i64 (first:Int)) rfl ⟨rfl,hs⟩
   ·refine obg [4] [] (decide (((((2*r)+1)+1:Nat):Int)<(hi:Int))) rfl (fun _=>rfl) rfl (fun _ _ _ _ h=>h) fun D ρ w hG hs=>?_
    have hgd:=QQ1 (eq_of_beq hG)
    exact Qac (V:=.int .i64 (((2*r)+1:Nat):Int)) rfl ⟨rfl,hs⟩
   ·refine obgy [4,6,7] [] [6,7] (decide (((((2*r)+1)+1:Nat):Int)<(hi:Int))) rfl (fun _=>rfl) rfl (fun _ _ _ _ h=>h) (fun hG=>⟨hG,hG,trivial⟩) fun D ρ w hG hs=>?_
    have hgd:=QQ1 (eq_of_beq hG)
    exact Qav (a:=(first:Int)) (b:=(((2*r)+1:Nat):Int)) (c:=((first+((2*r)+1):Nat):Int)) rfl rfl (Qaj (by omega) (by omega)) ⟨rfl,hs⟩
   ·refine obgy [4,5,8] [] [5,8] (decide (((((2*r)+1)+1:Nat):Int)<(hi:Int))) rfl (fun _=>rfl) rfl (fun _ _ _ _ h=>h) (fun hG=>⟨hG,hG,trivial⟩) fun D ρ w hG hs=>?_
    have hgd:=QQ1 (eq_of_beq hG)
    exact Qat QaI Qap.1 (hs.rd 0 rfl) rfl rfl (by omega) (by simp only [QQ6,QQ9,QQ5,Go.Sort.size_swp];omega) ⟨rfl,hs⟩
   ·refine obgy [4,9] [] [9] (decide (((((2*r)+1)+1:Nat):Int)<(hi:Int))) rfl (fun _=>rfl) rfl (fun _ _ _ _ h=>h) (fun hG=>⟨hG,trivial⟩) fun D ρ w hG hs=>?_
    have hgd:=QQ1 (eq_of_beq hG)
    exact QaQ (j:=0) (V:=.int .u16 (d1[first+((2*r)+1)]!)) (first+((2*r)+1)) Qap (hs.rd 0 rfl) (Qbk (by omega)) rfl rfl (by omega) ⟨rfl,hs⟩
   ·refine obg [4] [] (decide (((((2*r)+1)+1:Nat):Int)<(hi:Int))) rfl (fun _=>rfl) rfl (fun _ _ _ _ h=>h) fun D ρ w hG hs=>?_
    have hgd:=QQ1 (eq_of_beq hG)
    exact Qac (V:=.slice a N c) rfl ⟨rfl,hs⟩
   ·refine obg [4] [] (decide (((((2*r)+1)+1:Nat):Int)<(hi:Int))) rfl (fun _=>rfl) rfl (fun _ _ _ _ h=>h) fun D ρ w hG hs=>?_
    have hgd:=QQ1 (eq_of_beq hG)
    exact Qac (V:=.int .i64 (first:Int)) rfl ⟨rfl,hs⟩
   ·refine obg [4] [] (decide (((((2*r)+1)+1:Nat):Int)<(hi:Int))) rfl (fun _=>rfl) rfl (fun _ _ _ _ h=>h) fun D ρ w hG hs=>?_
    have hgd:=QQ1 (eq_of_beq hG)
    exact Qac (V:=.int .i64 (((2*r)+1:Nat):Int)) rfl ⟨rfl,hs⟩
   ·refine obgy [4,12,13] [] [12,13] (decide (((((2*r)+1)+1:Nat):Int)<(hi:Int))) rfl (fun _=>rfl) rfl (fun _ _ _ _ h=>h) (fun hG=>⟨hG,hG,trivial⟩) fun D ρ w hG hs=>?_
    have hgd:=QQ1 (eq_of_beq hG)
    exact Qav (a:=(first:Int)) (b:=(((2*r)+1:Nat):Int)) (c:=((first+((2*r)+1):Nat):Int)) rfl rfl (Qaj (by omega) (by omega)) ⟨rfl,hs⟩
   ·refine obgy [4,14] [] [14] (decide (((((2*r)+1)+1:Nat):Int)<(hi:Int))) rfl (fun _=>rfl) rfl (fun _ _ _ _ h=>h) (fun hG=>⟨hG,trivial⟩) fun D ρ w hG hs=>?_
    have hgd:=QQ1 (eq_of_beq hG)
    exact Qav (a:=((first+((2*r)+1):Nat):Int)) (b:=1) (c:=(((first+((2*r)+1))+1:Nat):Int)) rfl rfl (Qaj (by omega) (by omega)) ⟨rfl,hs⟩
   ·refine obgy [4,11,15] [] [11,15] (decide (((((2*r)+1)+1:Nat):Int)<(hi:Int))) rfl (fun _=>rfl) rfl (fun _ _ _ _ h=>h) (fun hG=>⟨hG,hG,trivial⟩) fun D ρ w hG hs=>?_
    have hgd:=QQ1 (eq_of_beq hG)
    exact Qat QaI Qap.1 (hs.rd 0 rfl) rfl rfl (by omega) (by simp only [QQ6,QQ9,QQ5,Go.Sort.size_swp];omega) ⟨rfl,hs⟩
   ·refine obgy [4,16] [] [16] (decide (((((2*r)+1)+1:Nat):Int)<(hi:Int))) rfl (fun _=>rfl) rfl (fun _ _ _ _ h=>h) (fun hG=>⟨hG,trivial⟩) fun D ρ w hG hs=>?_
    have hgd:=QQ1 (eq_of_beq hG)
    exact QaQ (j:=0) (V:=.int .u16 (d1[(first+((2*r)+1))+1]!)) ((first+((2*r)+1))+1) Qap (hs.rd 0 rfl) (Qbk (by omega)) rfl rfl (by omega) ⟨rfl,hs⟩
   ·refine obgy [4,10,17] [] [10,17] (decide (((((2*r)+1)+1:Nat):Int)<(hi:Int))) rfl (fun _=>rfl) rfl (fun _ _ _ _ h=>h) (fun hG=>⟨hG,hG,trivial⟩) fun D ρ w hG hs=>?_
    have hgd:=QQ1 (eq_of_beq hG)
    exact Qar (vs:=[.int .u16 (d1[first+((2*r)+1)]!),.int .u16 (d1[(first+((2*r)+1))+1]!)]) (V:=.bool (decide (d1[first+((2*r)+1)]!<d1[(first+((2*r)+1))+1]!))) Qc3 rfl rfl (Qcl _ (d1[first+((2*r)+1)]!) (d1[(first+((2*r)+1))+1]!)) hs fun _ hs=>⟨rfl,hs⟩
   ·exact ob [4,18] [] rfl rfl fun D ρ w hs=>Qa3 (h':=decide (d1[first+((2*r)+1)]!<d1[(first+((2*r)+1))+1]!)) rfl rfl rfl ⟨rfl,hs⟩
   rintro ρ1 w4 ρ2 hρ hs
   replace hρ:ρ2=upd (mix [17,18,19,20,21,22,23,24,25,26,27,28,29,30,31,32,33,34,35,36] ρ1 _) 36 (.bool ((decide (((((2*r)+1)+1:Nat):Int)<(hi:Int)))&&(decide (d1[first+((2*r)+1)]!<d1[(first+((2*r)+1))+1]!)))):=hρ
   subst hρ
   refine Qal (t:=(decide (((((2*r)+1)+1:Nat):Int)<(hi:Int)))&&(decide (d1[first+((2*r)+1)]!<d1[(first+((2*r)+1))+1]!))) rfl (fun c5=>?_) (fun c5=>?_)
   ·
    have c5r:=Qcd c5
    replace c5:=QbQ c5
    replace c5:=QQ1 c5
    replace c5r:=QQ1 c5r
    refine Qab (Qaa (Qac (V:=I6 (((2*r)+1:Nat):Int)) rfl (Qaa (Qav (a:=(((2*r)+1:Nat):Int)) (b:=1) (c:=((((2*r)+1)+1:Nat):Int)) rfl rfl (Qaj (by omega) (by omega)) (Qaa (Qad (V:=I6 ((((2*r)+1)+1:Nat):Int)) rfl (Qae (Qag (Qag (QaC HM [some 39,some 40,some 41,some 42,some 43,some 44,some 45,some 46,some 47,some 48,some 49,some 50,some 51,some 52] [] [0,0,0,6,15,31,0,0,0,384,960,1984,4095,8191] [pv (.slice a N c),pv (I6 (first:Int)),pv (I6 (r:Int)),pv (I6 ((first+r:Nat):Int)),pv (.pointer (some ⟨bkS (.slice a N c),ofS (.slice a N c)+((first+r:Nat):Int).toNat*1,none⟩)),pv (I7 (d1[first+r]!)),pv (.slice a N c),pv (I6 (first:Int)),pv (I6 ((((2*r)+1)+1:Nat):Int)),pv (I6 ((first+(((2*r)+1)+1):Nat):Int)),pv (.pointer (some ⟨bkS (.slice a N c),ofS (.slice a N c)+((first+(((2*r)+1)+1):Nat):Int).toNat*1,none⟩)),pv (I7 (d1[first+(((2*r)+1)+1)]!)),pv (.bool (decide (d1[first+r]!<d1[first+(((2*r)+1)+1)]!))),pv (.bool (!decide (d1[first+r]!<d1[first+(((2*r)+1)+1)]!)))] (fun _ _=>_) [13] (by kernel_rfl) hs ⟨?_,?_,?_,?_,?_,?_,?_,?_,?_,?_,?_,?_,?_,?_,trivial⟩ ?_))))))))))
    ·exact ob [] [] rfl rfl fun D ρ w hs=>Qac (V:=.slice a N c) rfl ⟨rfl,hs⟩
    ·exact ob [] [] rfl rfl fun D ρ w hs=>Qac (V:=I6 (first:Int)) rfl ⟨rfl,hs⟩
    ·exact ob [] [] rfl rfl fun D ρ w hs=>Qac (V:=I6 (r:Int)) rfl ⟨rfl,hs⟩
    ·exact ob [1,2] [] rfl rfl fun D ρ w hs=>Qav (a:=(first:Int)) (b:=(r:Int)) (c:=((first+r:Nat):Int)) rfl rfl (Qaj (by omega) (by omega)) ⟨rfl,hs⟩
    ·exact ob [0,3] [] rfl rfl fun D ρ w hs=>Qat QaI Qap.1 (hs.rd 0 rfl) rfl rfl (by omega) (by simp only [QQ6,QQ9,QQ5,Go.Sort.size_swp];omega) ⟨rfl,hs⟩
    ·exact ob [4] [] rfl rfl fun D ρ w hs=>QaQ (j:=0) (V:=I7 (d1[first+r]!)) (first+r) Qap (hs.rd 0 rfl) (Qbk (by omega)) rfl rfl (by omega) ⟨rfl,hs⟩
    ·exact ob [] [] rfl rfl fun D ρ w hs=>Qac (V:=.slice a N c) rfl ⟨rfl,hs⟩
    ·exact ob [] [] rfl rfl fun D ρ w hs=>Qac (V:=I6 (first:Int)) rfl ⟨rfl,hs⟩
    ·exact ob [] [] rfl rfl fun D ρ w hs=>Qac (V:=I6 ((((2*r)+1)+1:Nat):Int)) rfl ⟨rfl,hs⟩
    ·exact ob [7,8] [] rfl rfl fun D ρ w hs=>Qav (a:=(first:Int)) (b:=((((2*r)+1)+1:Nat):Int)) (c:=((first+(((2*r)+1)+1):Nat):Int)) rfl rfl (Qaj (by omega) (by omega)) ⟨rfl,hs⟩
    ·exact ob [6,9] [] rfl rfl fun D ρ w hs=>Qat QaI Qap.1 (hs.rd 0 rfl) rfl rfl (by omega) (by simp only [QQ6,QQ9,QQ5,Go.Sort.size_swp];omega) ⟨rfl,hs⟩
    ·exact ob [10] [] rfl rfl fun D ρ w hs=>QaQ (j:=0) (V:=I7 (d1[first+(((2*r)+1)+1)]!)) (first+(((2*r)+1)+1)) Qap (hs.rd 0 rfl) (Qbk (by omega)) rfl rfl (by omega) ⟨rfl,hs⟩
    ·exact ob [5,11] [] rfl rfl fun D ρ w hs=>Qar (vs:=[I7 (d1[first+r]!),I7 (d1[first+(((2*r)+1)+1)]!)]) (V:=.bool (decide (d1[first+r]!<d1[first+(((2*r)+1)+1)]!))) Qc3 rfl rfl (Qcl _ (d1[first+r]!) (d1[first+(((2*r)+1)+1)]!)) hs fun _ hs=>⟨rfl,hs⟩
    ·exact ob [12] [] rfl rfl fun D ρ w hs=>Qbw rfl ⟨rfl,hs⟩
    rintro ρ1 w7 ρ2 hρ hs
    replace hρ:ρ2=upd (mix [39,40,41,42,43,44,45,46,47,48,49,50,51,52] ρ1 _) 52 (.bool (!decide (d1[first+r]!<d1[first+(((2*r)+1)+1)]!))):=hρ
    subst hρ
    refine Qal (t:=!decide (d1[first+r]!<d1[first+(((2*r)+1)+1)]!)) rfl (fun c8=>?_) (fun c8=>?_)
    ·
     replace c8:=QbL c8
     replace c8:=QQ2 c8
     refine Qas ?_
     refine ⟨_,Qbo Tryz.results145,?_⟩
     have hX:d1=Sort.siftDown ltInt hi first lo d:=by rw [← hev,Qux c2 c5 c5r,if_neg c8]
     exact ⟨(),rfl,hX ▸ hs.take 1,hX ▸ (by first|assumption|(simp only [QQ5,Go.Sort.size_swp];omega))⟩
    ·
     replace c8:=Qbr c8
     replace c8:=QQ1 c8
     refine Qan (Qag (QaC HM [some 53,some 54,some 55,some 56,some 57,some 58,some 59,some 60,some 61,some 62,some 63,some 64,some 65,some 66,some 67,some 68,some 69,some 70,some 71,some 72,some 73,none,some 74,none] [] [0,0,0,6,0,0,0,96,0,0,0,1536,3840,7936,0,0,0,98304,245760,507904,1048335,2096911,4194303,8388607] [pv (.slice a N c),pv (I6 (first:Int)),pv (I6 (r:Int)),pv (I6 ((first+r:Nat):Int)),pv (.slice a N c),pv (I6 (first:Int)),pv (I6 ((((2*r)+1)+1:Nat):Int)),pv (I6 ((first+(((2*r)+1)+1):Nat):Int)),pv (.slice a N c),pv (I6 (first:Int)),pv (I6 ((((2*r)+1)+1:Nat):Int)),pv (I6 ((first+(((2*r)+1)+1):Nat):Int)),pv (.pointer (some ⟨bkS (.slice a N c),ofS (.slice a N c)+((first+(((2*r)+1)+1):Nat):Int).toNat*1,none⟩)),pv (I7 (d1[first+(((2*r)+1)+1)]!)),pv (.slice a N c),pv (I6 (first:Int)),pv (I6 (r:Int)),pv (I6 ((first+r:Nat):Int)),pv (.pointer (some ⟨bkS (.slice a N c),ofS (.slice a N c)+((first+r:Nat):Int).toNat*1,none⟩)),pv (I7 (d1[first+r]!)),pv (.pointer (some ⟨bkS (.slice a N c),ofS (.slice a N c)+((first+r:Nat):Int).toNat*1,none⟩)),pn,pv (.pointer (some ⟨bkS (.slice a N c),ofS (.slice a N c)+((first+(((2*r)+1)+1):Nat):Int).toNat*1,none⟩)),pn] (fun D ρ=>[cond (D 23) (row (.slice a N c) ((((d1.setIfInBounds (first+r) (d1[first+(((2*r)+1)+1)]!)).setIfInBounds (first+(((2*r)+1)+1)) (d1[first+r]!)).toList).map (ic .u16)) 31 1) (cond (D 21) (row (.slice a N c) (((d1.setIfInBounds (first+r) (d1[first+(((2*r)+1)+1)]!)).toList).map (ic .u16)) 31 1) (row (.slice a N c) (d1.toList.map (ic .u16)) 31 1))]) [] (by kernel_rfl) hs ⟨?_,?_,?_,?_,?_,?_,?_,?_,?_,?_,?_,?_,?_,?_,?_,?_,?_,?_,?_,?_,?_,?_,?_,?_,trivial⟩ ?_))
     ·exact ob [] [] rfl rfl fun D ρ w hs=>Qac (V:=.slice a N c) rfl ⟨rfl,hs⟩
     ·exact ob [] [] rfl rfl fun D ρ w hs=>Qac (V:=I6 (first:Int)) rfl ⟨rfl,hs⟩
     ·exact ob [] [] rfl rfl fun D ρ w hs=>Qac (V:=I6 (r:Int)) rfl ⟨rfl,hs⟩
     ·exact ob [1,2] [] rfl rfl fun D ρ w hs=>Qav (a:=(first:Int)) (b:=(r:Int)) (c:=((first+r:Nat):Int)) rfl rfl (Qaj (by omega) (by omega)) ⟨rfl,hs⟩
     ·exact ob [] [] rfl rfl fun D ρ w hs=>Qac (V:=.slice a N c) rfl ⟨rfl,hs⟩
     ·exact ob [] [] rfl rfl fun D ρ w hs=>Qac (V:=I6 (first:Int)) rfl ⟨rfl,hs⟩
     ·exact ob [] [] rfl rfl fun D ρ w hs=>Qac (V:=I6 ((((2*r)+1)+1:Nat):Int)) rfl ⟨rfl,hs⟩
     ·exact ob [5,6] [] rfl rfl fun D ρ w hs=>Qav (a:=(first:Int)) (b:=((((2*r)+1)+1:Nat):Int)) (c:=((first+(((2*r)+1)+1):Nat):Int)) rfl rfl (Qaj (by omega) (by omega)) ⟨rfl,hs⟩
     ·exact ob [] [] rfl rfl fun D ρ w hs=>Qac (V:=.slice a N c) rfl ⟨rfl,hs⟩
     ·exact ob [] [] rfl rfl fun D ρ w hs=>Qac (V:=I6 (first:Int)) rfl ⟨rfl,hs⟩
     ·exact ob [] [] rfl rfl fun D ρ w hs=>Qac (V:=I6 ((((2*r)+1)+1:Nat):Int)) rfl ⟨rfl,hs⟩
     ·exact ob [9,10] [] rfl rfl fun D ρ w hs=>Qav (a:=(first:Int)) (b:=((((2*r)+1)+1:Nat):Int)) (c:=((first+(((2*r)+1)+1):Nat):Int)) rfl rfl (Qaj (by omega) (by omega)) ⟨rfl,hs⟩
     ·exact ob [8,11] [21,23] rfl rfl fun D ρ w hs=>Qat QaI Qap.1 (hs.rd 0 rfl) rfl rfl (by omega) (by simp only [QQ6,QQ9,QQ5,Go.Sort.size_swp];omega) ⟨rfl,hs⟩
     ·exact ob [12] [21,23] rfl rfl fun D ρ w hs=>QaQ (j:=0) (V:=I7 (d1[first+(((2*r)+1)+1)]!)) (first+(((2*r)+1)+1)) Qap (hs.rd 0 rfl) (Qbk (by omega)) rfl rfl (by omega) ⟨rfl,hs⟩
     ·exact ob [] [] rfl rfl fun D ρ w hs=>Qac (V:=.slice a N c) rfl ⟨rfl,hs⟩
     ·exact ob [] [] rfl rfl fun D ρ w hs=>Qac (V:=I6 (first:Int)) rfl ⟨rfl,hs⟩
     ·exact ob [] [] rfl rfl fun D ρ w hs=>Qac (V:=I6 (r:Int)) rfl ⟨rfl,hs⟩
     ·exact ob [15,16] [] rfl rfl fun D ρ w hs=>Qav (a:=(first:Int)) (b:=(r:Int)) (c:=((first+r:Nat):Int)) rfl rfl (Qaj (by omega) (by omega)) ⟨rfl,hs⟩
     ·exact ob [14,17] [21,23] rfl rfl fun D ρ w hs=>Qat QaI Qap.1 (hs.rd 0 rfl) rfl rfl (by omega) (by simp only [QQ6,QQ9,QQ5,Go.Sort.size_swp];omega) ⟨rfl,hs⟩
     ·exact ob [18] [21,23] rfl rfl fun D ρ w hs=>QaQ (j:=0) (V:=I7 (d1[first+r]!)) (first+r) Qap (hs.rd 0 rfl) (Qbk (by omega)) rfl rfl (by omega) ⟨rfl,hs⟩
     ·exact ob [0,3] [21,23] rfl rfl fun D ρ w hs=>Qat QaI Qap.1 (hs.rd 0 rfl) rfl rfl (by omega) (by simp only [QQ6,QQ9,QQ5,Go.Sort.size_swp];omega) ⟨rfl,hs⟩
     ·exact ob [13,20] [23] rfl rfl fun D ρ w hs=>Qcf (z:=d1[first+(((2*r)+1)+1)]!) (first+r) Qap hs 0 rfl rfl (by omega) (by first|omega|(simp only [QQ5,Go.Sort.size_swp];omega)) rfl rfl rfl fun _ hs=>⟨trivial,hs⟩
     ·exact ob [4,7,21] [23] rfl rfl fun D ρ w hs=>Qat QaI Qap.1 (hs.rd 0 rfl) rfl rfl (by omega) (by simp only [QQ6,QQ9,QQ5,Go.Sort.size_swp];omega) ⟨rfl,hs⟩
     ·exact ob [19,21,22] [] rfl rfl fun D ρ w hs=>Qcf (z:=d1[first+r]!) (first+(((2*r)+1)+1)) Qap hs 0 rfl rfl (by omega) (by first|omega|(simp only [QQ5,Go.Sort.size_swp];omega)) rfl rfl rfl fun _ hs=>⟨trivial,hs⟩
     rintro ρ1 w11 ρ2 hρ hs
     replace hρ:ρ2=mix [53,54,55,56,57,58,59,60,61,62,63,64,65,66,67,68,69,70,71,72,73,74] ρ1 _:=hρ
     replace hs:Own w S w11 [row (.slice a N c) ((((d1.setIfInBounds (first+r) (d1[first+(((2*r)+1)+1)]!)).setIfInBounds (first+(((2*r)+1)+1)) (d1[first+r]!)).toList).map (ic .u16)) 31 1]:=hs
     subst hρ
     refine Qab (Qaa (Qac (V:=I6 ((((2*r)+1)+1:Nat):Int)) rfl (Qaa (Qad (V:=I6 ((((2*r)+1)+1:Nat):Int)) rfl (Qae ?_)))))
     refine ⟨_,?_,_,((2*r)+1)+1,((d1.setIfInBounds (first+r) (d1[first+(((2*r)+1)+1)]!)).setIfInBounds (first+(((2*r)+1)+1)) (d1[first+r]!)),Qah (Qam (ds:=[8,9,11,12,13,14,15,16,17,18,19,20,21,22,23,24,25,26,27,28,29,30,31,32,33,34,35,36,37,38,39,40,41,42,43,44,45,46,47,48,49,50,51,52,53,54,55,56,57,58,59,60,61,62,63,64,65,66,67,68,69,70,71,72,73,74,75]) (by repeat (first|exact Agr.refl _ _|refine Agr.upd ?_ rfl|refine Agr.mix ?_ rfl))) rfl,(by omega),(by simp only [QQ5];exact hz1),(by rw [← hev,Qux c2 c5 c5r,if_pos c8];rfl),rfl,hs.take 1⟩
     omega
   ·
    refine Qan (Qag (Qag (QaC HM [some 39,some 40,some 41,some 42,some 43,some 44,some 45,some 46,some 47,some 48,some 49,some 50,some 51,some 52] [] [0,0,0,6,15,31,0,0,0,384,960,1984,4095,8191] [pv (.slice a N c),pv (I6 (first:Int)),pv (I6 (r:Int)),pv (I6 ((first+r:Nat):Int)),pv (.pointer (some ⟨bkS (.slice a N c),ofS (.slice a N c)+((first+r:Nat):Int).toNat*1,none⟩)),pv (I7 (d1[first+r]!)),pv (.slice a N c),pv (I6 (first:Int)),pv (I6 (((2*r)+1:Nat):Int)),pv (I6 ((first+((2*r)+1):Nat):Int)),pv (.pointer (some ⟨bkS (.slice a N c),ofS (.slice a N c)+((first+((2*r)+1):Nat):Int).toNat*1,none⟩)),pv (I7 (d1[first+((2*r)+1)]!)),pv (.bool (decide (d1[first+r]!<d1[first+((2*r)+1)]!))),pv (.bool (!decide (d1[first+r]!<d1[first+((2*r)+1)]!)))] (fun _ _=>_) [13] (by kernel_rfl) hs ⟨?_,?_,?_,?_,?_,?_,?_,?_,?_,?_,?_,?_,?_,?_,trivial⟩ ?_)))
    ·exact ob [] [] rfl rfl fun D ρ w hs=>Qac (V:=.slice a N c) rfl ⟨rfl,hs⟩
    ·exact ob [] [] rfl rfl fun D ρ w hs=>Qac (V:=I6 (first:Int)) rfl ⟨rfl,hs⟩
    ·exact ob [] [] rfl rfl fun D ρ w hs=>Qac (V:=I6 (r:Int)) rfl ⟨rfl,hs⟩
    ·exact ob [1,2] [] rfl rfl fun D ρ w hs=>Qav (a:=(first:Int)) (b:=(r:Int)) (c:=((first+r:Nat):Int)) rfl rfl (Qaj (by omega) (by omega)) ⟨rfl,hs⟩
    ·exact ob [0,3] [] rfl rfl fun D ρ w hs=>Qat QaI Qap.1 (hs.rd 0 rfl) rfl rfl (by omega) (by simp only [QQ6,QQ9,QQ5,Go.Sort.size_swp];omega) ⟨rfl,hs⟩
    ·exact ob [4] [] rfl rfl fun D ρ w hs=>QaQ (j:=0) (V:=I7 (d1[first+r]!)) (first+r) Qap (hs.rd 0 rfl) (Qbk (by omega)) rfl rfl (by omega) ⟨rfl,hs⟩
    ·exact ob [] [] rfl rfl fun D ρ w hs=>Qac (V:=.slice a N c) rfl ⟨rfl,hs⟩
    ·exact ob [] [] rfl rfl fun D ρ w hs=>Qac (V:=I6 (first:Int)) rfl ⟨rfl,hs⟩
    ·exact ob [] [] rfl rfl fun D ρ w hs=>Qac (V:=I6 (((2*r)+1:Nat):Int)) rfl ⟨rfl,hs⟩
    ·exact ob [7,8] [] rfl rfl fun D ρ w hs=>Qav (a:=(first:Int)) (b:=(((2*r)+1:Nat):Int)) (c:=((first+((2*r)+1):Nat):Int)) rfl rfl (Qaj (by omega) (by omega)) ⟨rfl,hs⟩
    ·exact ob [6,9] [] rfl rfl fun D ρ w hs=>Qat QaI Qap.1 (hs.rd 0 rfl) rfl rfl (by omega) (by simp only [QQ6,QQ9,QQ5,Go.Sort.size_swp];omega) ⟨rfl,hs⟩
    ·exact ob [10] [] rfl rfl fun D ρ w hs=>QaQ (j:=0) (V:=I7 (d1[first+((2*r)+1)]!)) (first+((2*r)+1)) Qap (hs.rd 0 rfl) (Qbk (by omega)) rfl rfl (by omega) ⟨rfl,hs⟩
    ·exact ob [5,11] [] rfl rfl fun D ρ w hs=>Qar (vs:=[I7 (d1[first+r]!),I7 (d1[first+((2*r)+1)]!)]) (V:=.bool (decide (d1[first+r]!<d1[first+((2*r)+1)]!))) Qc3 rfl rfl (Qcl _ (d1[first+r]!) (d1[first+((2*r)+1)]!)) hs fun _ hs=>⟨rfl,hs⟩
    ·exact ob [12] [] rfl rfl fun D ρ w hs=>Qbw rfl ⟨rfl,hs⟩
    rintro ρ1 w13 ρ2 hρ hs
    replace hρ:ρ2=upd (mix [39,40,41,42,43,44,45,46,47,48,49,50,51,52] ρ1 _) 52 (.bool (!decide (d1[first+r]!<d1[first+((2*r)+1)]!))):=hρ
    subst hρ
    refine Qal (t:=!decide (d1[first+r]!<d1[first+((2*r)+1)]!)) rfl (fun c14=>?_) (fun c14=>?_)
    ·
     replace c14:=QbL c14
     replace c14:=QQ2 c14
     refine Qas ?_
     refine ⟨_,Qbo Tryz.results145,?_⟩
     have hX:d1=Sort.siftDown ltInt hi first lo d:=by rw [← hev,QuC c2 c5,if_neg c14]
     exact ⟨(),rfl,hX ▸ hs.take 1,hX ▸ (by first|assumption|(simp only [QQ5,Go.Sort.size_swp];omega))⟩
    ·
     replace c14:=Qbr c14
     replace c14:=QQ1 c14
     refine Qan (Qag (QaC HM [some 53,some 54,some 55,some 56,some 57,some 58,some 59,some 60,some 61,some 62,some 63,some 64,some 65,some 66,some 67,some 68,some 69,some 70,some 71,some 72,some 73,none,some 74,none] [] [0,0,0,6,0,0,0,96,0,0,0,1536,3840,7936,0,0,0,98304,245760,507904,1048335,2096911,4194303,8388607] [pv (.slice a N c),pv (I6 (first:Int)),pv (I6 (r:Int)),pv (I6 ((first+r:Nat):Int)),pv (.slice a N c),pv (I6 (first:Int)),pv (I6 (((2*r)+1:Nat):Int)),pv (I6 ((first+((2*r)+1):Nat):Int)),pv (.slice a N c),pv (I6 (first:Int)),pv (I6 (((2*r)+1:Nat):Int)),pv (I6 ((first+((2*r)+1):Nat):Int)),pv (.pointer (some ⟨bkS (.slice a N c),ofS (.slice a N c)+((first+((2*r)+1):Nat):Int).toNat*1,none⟩)),pv (I7 (d1[first+((2*r)+1)]!)),pv (.slice a N c),pv (I6 (first:Int)),pv (I6 (r:Int)),pv (I6 ((first+r:Nat):Int)),pv (.pointer (some ⟨bkS (.slice a N c),ofS (.slice a N c)+((first+r:Nat):Int).toNat*1,none⟩)),pv (I7 (d1[first+r]!)),pv (.pointer (some ⟨bkS (.slice a N c),ofS (.slice a N c)+((first+r:Nat):Int).toNat*1,none⟩)),pn,pv (.pointer (some ⟨bkS (.slice a N c),ofS (.slice a N c)+((first+((2*r)+1):Nat):Int).toNat*1,none⟩)),pn] (fun D ρ=>[cond (D 23) (row (.slice a N c) ((((d1.setIfInBounds (first+r) (d1[first+((2*r)+1)]!)).setIfInBounds (first+((2*r)+1)) (d1[first+r]!)).toList).map (ic .u16)) 31 1) (cond (D 21) (row (.slice a N c) (((d1.setIfInBounds (first+r) (d1[first+((2*r)+1)]!)).toList).map (ic .u16)) 31 1) (row (.slice a N c) (d1.toList.map (ic .u16)) 31 1))]) [] (by kernel_rfl) hs ⟨?_,?_,?_,?_,?_,?_,?_,?_,?_,?_,?_,?_,?_,?_,?_,?_,?_,?_,?_,?_,?_,?_,?_,?_,trivial⟩ ?_))
     ·exact ob [] [] rfl rfl fun D ρ w hs=>Qac (V:=.slice a N c) rfl ⟨rfl,hs⟩
     ·exact ob [] [] rfl rfl fun D ρ w hs=>Qac (V:=I6 (first:Int)) rfl ⟨rfl,hs⟩
     ·exact ob [] [] rfl rfl fun D ρ w hs=>Qac (V:=I6 (r:Int)) rfl ⟨rfl,hs⟩
     ·exact ob [1,2] [] rfl rfl fun D ρ w hs=>Qav (a:=(first:Int)) (b:=(r:Int)) (c:=((first+r:Nat):Int)) rfl rfl (Qaj (by omega) (by omega)) ⟨rfl,hs⟩
     ·exact ob [] [] rfl rfl fun D ρ w hs=>Qac (V:=.slice a N c) rfl ⟨rfl,hs⟩
     ·exact ob [] [] rfl rfl fun D ρ w hs=>Qac (V:=I6 (first:Int)) rfl ⟨rfl,hs⟩
     ·exact ob [] [] rfl rfl fun D ρ w hs=>Qac (V:=I6 (((2*r)+1:Nat):Int)) rfl ⟨rfl,hs⟩
     ·exact ob [5,6] [] rfl rfl fun D ρ w hs=>Qav (a:=(first:Int)) (b:=(((2*r)+1:Nat):Int)) (c:=((first+((2*r)+1):Nat):Int)) rfl rfl (Qaj (by omega) (by omega)) ⟨rfl,hs⟩
     ·exact ob [] [] rfl rfl fun D ρ w hs=>Qac (V:=.slice a N c) rfl ⟨rfl,hs⟩
     ·exact ob [] [] rfl rfl fun D ρ w hs=>Qac (V:=I6 (first:Int)) rfl ⟨rfl,hs⟩
     ·exact ob [] [] rfl rfl fun D ρ w hs=>Qac (V:=I6 (((2*r)+1:Nat):Int)) rfl ⟨rfl,hs⟩
     ·exact ob [9,10] [] rfl rfl fun D ρ w hs=>Qav (a:=(first:Int)) (b:=(((2*r)+1:Nat):Int)) (c:=((first+((2*r)+1):Nat):Int)) rfl rfl (Qaj (by omega) (by omega)) ⟨rfl,hs⟩
     ·exact ob [8,11] [21,23] rfl rfl fun D ρ w hs=>Qat QaI Qap.1 (hs.rd 0 rfl) rfl rfl (by omega) (by simp only [QQ6,QQ9,QQ5,Go.Sort.size_swp];omega) ⟨rfl,hs⟩
     ·exact ob [12] [21,23] rfl rfl fun D ρ w hs=>QaQ (j:=0) (V:=I7 (d1[first+((2*r)+1)]!)) (first+((2*r)+1)) Qap (hs.rd 0 rfl) (Qbk (by omega)) rfl rfl (by omega) ⟨rfl,hs⟩
     ·exact ob [] [] rfl rfl fun D ρ w hs=>Qac (V:=.slice a N c) rfl ⟨rfl,hs⟩
     ·exact ob [] [] rfl rfl fun D ρ w hs=>Qac (V:=I6 (first:Int)) rfl ⟨rfl,hs⟩
     ·exact ob [] [] rfl rfl fun D ρ w hs=>Qac (V:=I6 (r:Int)) rfl ⟨rfl,hs⟩
     ·exact ob [15,16] [] rfl rfl fun D ρ w hs=>Qav (a:=(first:Int)) (b:=(r:Int)) (c:=((first+r:Nat):Int)) rfl rfl (Qaj (by omega) (by omega)) ⟨rfl,hs⟩
     ·exact ob [14,17] [21,23] rfl rfl fun D ρ w hs=>Qat QaI Qap.1 (hs.rd 0 rfl) rfl rfl (by omega) (by simp only [QQ6,QQ9,QQ5,Go.Sort.size_swp];omega) ⟨rfl,hs⟩
     ·exact ob [18] [21,23] rfl rfl fun D ρ w hs=>QaQ (j:=0) (V:=I7 (d1[first+r]!)) (first+r) Qap (hs.rd 0 rfl) (Qbk (by omega)) rfl rfl (by omega) ⟨rfl,hs⟩
     ·exact ob [0,3] [21,23] rfl rfl fun D ρ w hs=>Qat QaI Qap.1 (hs.rd 0 rfl) rfl rfl (by omega) (by simp only [QQ6,QQ9,QQ5,Go.Sort.size_swp];omega) ⟨rfl,hs⟩
     ·exact ob [13,20] [23] rfl rfl fun D ρ w hs=>Qcf (z:=d1[first+((2*r)+1)]!) (first+r) Qap hs 0 rfl rfl (by omega) (by first|omega|(simp only [QQ5,Go.Sort.size_swp];omega)) rfl rfl rfl fun _ hs=>⟨trivial,hs⟩
     ·exact ob [4,7,21] [23] rfl rfl fun D ρ w hs=>Qat QaI Qap.1 (hs.rd 0 rfl) rfl rfl (by omega) (by simp only [QQ6,QQ9,QQ5,Go.Sort.size_swp];omega) ⟨rfl,hs⟩
     ·exact ob [19,21,22] [] rfl rfl fun D ρ w hs=>Qcf (z:=d1[first+r]!) (first+((2*r)+1)) Qap hs 0 rfl rfl (by omega) (by first|omega|(simp only [QQ5,Go.Sort.size_swp];omega)) rfl rfl rfl fun _ hs=>⟨trivial,hs⟩
     rintro ρ1 w17 ρ2 hρ hs
     replace hρ:ρ2=mix [53,54,55,56,57,58,59,60,61,62,63,64,65,66,67,68,69,70,71,72,73,74] ρ1 _:=hρ
     replace hs:Own w S w17 [row (.slice a N c) ((((d1.setIfInBounds (first+r) (d1[first+((2*r)+1)]!)).setIfInBounds (first+((2*r)+1)) (d1[first+r]!)).toList).map (ic .u16)) 31 1]:=hs
     subst hρ
     refine Qab (Qaa (Qac (V:=I6 (((2*r)+1:Nat):Int)) rfl (Qaa (Qad (V:=I6 (((2*r)+1:Nat):Int)) rfl (Qae ?_)))))
     refine ⟨_,?_,_,(2*r)+1,((d1.setIfInBounds (first+r) (d1[first+((2*r)+1)]!)).setIfInBounds (first+((2*r)+1)) (d1[first+r]!)),Qah (Qam (ds:=[8,9,11,12,13,14,15,16,17,18,19,20,21,22,23,24,25,26,27,28,29,30,31,32,33,34,35,36,37,38,39,40,41,42,43,44,45,46,47,48,49,50,51,52,53,54,55,56,57,58,59,60,61,62,63,64,65,66,67,68,69,70,71,72,73,74,75]) (by repeat (first|exact Agr.refl _ _|refine Agr.upd ?_ rfl|refine Agr.mix ?_ rfl))) rfl,(by omega),(by simp only [QQ5];exact hz1),(by rw [← hev,QuC c2 c5,if_pos c14];rfl),rfl,hs.take 1⟩
     omega
theorem Qpy {i j:Nat} {d:Array Int} (h:(i:Int)<(j:Int)):Sort.reverseLoop i j d=Sort.reverseLoop (i+1) (j-1) (Sort.swp d i j):=by rw [Sort.reverseLoop,if_pos (by omega)]
theorem QsM {i j:Nat} {d:Array Int} (h:¬(i:Int)<(j:Int)):Sort.reverseLoop i j d=d:=by rw [Sort.reverseLoop,if_neg (by omega)]
theorem QsB (w:World) (S:Nat→Prop) (a:Option Addr) (N c:Nat) (d:Array Int) (hsz:d.size=N) (hN:N≤2305843009213693951) (lo hi:Nat) (h1:lo<hi) (h2:hi≤N) (hR:(row (.slice a N c) (d.toList.map (ic .u16)) 31 1).holds w S) (hlt:∀ x,S x→x<w.heap.size):Calls Tryz.prog 133 #[.slice a N c,.int .i64 (lo:Int),.int .i64 (hi:Int)] w (fun e w'=>∃ x:Unit,e = .returned (.tuple #[])∧Own w S w' [row (.slice a N c) ((Sort.reverseRange d lo hi).toList.map (ic .u16)) 31 1]∧(Sort.reverseRange d lo hi).size=N):=by
 refine Qai (n:=32) Tryz.func133 rfl Tryz.ntmps133 rfl ?_
 have hs:=Own.lent hR hlt
 refine Qag (Qab (Qaa (Qac (V:=I6 (lo:Int)) rfl (Qaa (Qad (V:=I6 (lo:Int)) rfl (Qae (Qag (Qab (Qaa (Qac (V:=I6 (hi:Int)) rfl (Qaa (Qa4 (a:=(hi:Int)) (b:=1) (c:=((hi-1:Nat):Int)) rfl rfl (Qaj (by omega) (by omega)) (Qaa (Qad (V:=I6 ((hi-1:Nat):Int)) rfl (Qae (Qak (Qax (fun ρ μ ρ' w'=>∃ (ρo:Env) (i:Nat) (j:Nat) (d1:Array Int),ρ'=upd (upd (mix [6,7,11,12,13,14,15,16,17,18,19,20,21,22,23,24,25,26,27,28,29,30,31] ρo ρ) 6 (I6 (i:Int))) 7 (I6 (j:Int))∧(lo≤i)∧(j<hi)∧(d1.size=N)∧(Sort.reverseLoop i j d1=Sort.reverseRange d lo hi)∧μ=j-i∧Own w S w' [row (.slice a N c) (d1.toList.map (ic .u16)) 31 1]) ?_ ?_)))))))))))))))))
 ·exact ⟨_,_,lo,hi-1,d,Qah (Qah (Qam (ds:=[6,7,11,12,13,14,15,16,17,18,19,20,21,22,23,24,25,26,27,28,29,30,31]) (Agr.refl _ _)) rfl) rfl,(Nat.le_refl _),(by omega),hsz,rfl,rfl,hs⟩
 ·rintro μ ρ' w1 ⟨ρo,i,j,d1,rfl,hi0,hj,hz1,hev,rfl,hs⟩
  refine Qag (Qag (Qab (Qaa (Qac (V:=I6 (i:Int)) rfl (Qaa (Qac (V:=I6 (j:Int)) rfl (Qaa (QaP rfl rfl (Qae (Qal (t:=decide ((i:Int)<(j:Int))) rfl (fun c2=>?_) (fun c2=>?_)))))))))))
  ·
   replace c2:=QQ1 c2
   refine Qan (Qak (Qag (QaC HM [some 14,some 15,some 16,some 17,some 18,some 19,some 20,some 21,some 22,some 23,some 24,some 25,some 26,none,some 27,none] [] [0,0,0,0,0,0,48,112,0,0,768,1792,4083,8179,16383,32767] [pv (.slice a N c),pv (I6 (i:Int)),pv (.slice a N c),pv (I6 (j:Int)),pv (.slice a N c),pv (I6 (j:Int)),pv (.pointer (some ⟨bkS (.slice a N c),ofS (.slice a N c)+(j:Int).toNat*1,none⟩)),pv (I7 (d1[j]!)),pv (.slice a N c),pv (I6 (i:Int)),pv (.pointer (some ⟨bkS (.slice a N c),ofS (.slice a N c)+(i:Int).toNat*1,none⟩)),pv (I7 (d1[i]!)),pv (.pointer (some ⟨bkS (.slice a N c),ofS (.slice a N c)+(i:Int).toNat*1,none⟩)),pn,pv (.pointer (some ⟨bkS (.slice a N c),ofS (.slice a N c)+(j:Int).toNat*1,none⟩)),pn] (fun D ρ=>[cond (D 15) (row (.slice a N c) ((((d1.setIfInBounds i (d1[j]!)).setIfInBounds j (d1[i]!)).toList).map (ic .u16)) 31 1) (cond (D 13) (row (.slice a N c) (((d1.setIfInBounds i (d1[j]!)).toList).map (ic .u16)) 31 1) (row (.slice a N c) (d1.toList.map (ic .u16)) 31 1))]) [] (by kernel_rfl) hs ⟨?_,?_,?_,?_,?_,?_,?_,?_,?_,?_,?_,?_,?_,?_,?_,?_,trivial⟩ ?_)))
   ·exact ob [] [] rfl rfl fun D ρ w hs=>Qac (V:=.slice a N c) rfl ⟨rfl,hs⟩
   ·exact ob [] [] rfl rfl fun D ρ w hs=>Qac (V:=I6 (i:Int)) rfl ⟨rfl,hs⟩
   ·exact ob [] [] rfl rfl fun D ρ w hs=>Qac (V:=.slice a N c) rfl ⟨rfl,hs⟩
   ·exact ob [] [] rfl rfl fun D ρ w hs=>Qac (V:=I6 (j:Int)) rfl ⟨rfl,hs⟩
   ·exact ob [] [] rfl rfl fun D ρ w hs=>Qac (V:=.slice a N c) rfl ⟨rfl,hs⟩
   ·exact ob [] [] rfl rfl fun D ρ w hs=>Qac (V:=I6 (j:Int)) rfl ⟨rfl,hs⟩
   ·exact ob [4,5] [13,15] rfl rfl fun D ρ w hs=>Qat QaI Qap.1 (hs.rd 0 rfl) rfl rfl (by omega) (by simp only [QQ6,QQ9,QQ5,Go.Sort.size_swp];omega) ⟨rfl,hs⟩
   ·exact ob [6] [13,15] rfl rfl fun D ρ w hs=>QaQ (j:=0) (V:=I7 (d1[j]!)) j Qap (hs.rd 0 rfl) (Qbk (by omega)) rfl rfl (by omega) ⟨rfl,hs⟩
   ·exact ob [] [] rfl rfl fun D ρ w hs=>Qac (V:=.slice a N c) rfl ⟨rfl,hs⟩
   ·exact ob [] [] rfl rfl fun D ρ w hs=>Qac (V:=I6 (i:Int)) rfl ⟨rfl,hs⟩
   ·exact ob [8,9] [13,15] rfl rfl fun D ρ w hs=>Qat QaI Qap.1 (hs.rd 0 rfl) rfl rfl (by omega) (by simp only [QQ6,QQ9,QQ5,Go.Sort.size_swp];omega) ⟨rfl,hs⟩
   ·exact ob [10] [13,15] rfl rfl fun D ρ w hs=>QaQ (j:=0) (V:=I7 (d1[i]!)) i Qap (hs.rd 0 rfl) (Qbk (by omega)) rfl rfl (by omega) ⟨rfl,hs⟩
   ·exact ob [0,1] [13,15] rfl rfl fun D ρ w hs=>Qat QaI Qap.1 (hs.rd 0 rfl) rfl rfl (by omega) (by simp only [QQ6,QQ9,QQ5,Go.Sort.size_swp];omega) ⟨rfl,hs⟩
   ·exact ob [7,12] [15] rfl rfl fun D ρ w hs=>Qcf (z:=d1[j]!) i Qap hs 0 rfl rfl (by omega) (by first|omega|(simp only [QQ5,Go.Sort.size_swp];omega)) rfl rfl rfl fun _ hs=>⟨trivial,hs⟩
   ·exact ob [2,3,13] [15] rfl rfl fun D ρ w hs=>Qat QaI Qap.1 (hs.rd 0 rfl) rfl rfl (by omega) (by simp only [QQ6,QQ9,QQ5,Go.Sort.size_swp];omega) ⟨rfl,hs⟩
   ·exact ob [11,13,14] [] rfl rfl fun D ρ w hs=>Qcf (z:=d1[i]!) j Qap hs 0 rfl rfl (by omega) (by first|omega|(simp only [QQ5,Go.Sort.size_swp];omega)) rfl rfl rfl fun _ hs=>⟨trivial,hs⟩
   rintro ρ1 w5 ρ2 hρ hs
   replace hρ:ρ2=mix [14,15,16,17,18,19,20,21,22,23,24,25,26,27] ρ1 _:=hρ
   replace hs:Own w S w5 [row (.slice a N c) ((((d1.setIfInBounds i (d1[j]!)).setIfInBounds j (d1[i]!)).toList).map (ic .u16)) 31 1]:=hs
   subst hρ
   refine Qag (Qab (Qaa (Qac (V:=I6 (i:Int)) rfl (Qaa (Qav (a:=(i:Int)) (b:=1) (c:=((i+1:Nat):Int)) rfl rfl (Qaj (by omega) (by omega)) (Qaa (Qad (V:=I6 ((i+1:Nat):Int)) rfl (Qae (Qab (Qaa (Qac (V:=I6 (j:Int)) rfl (Qaa (Qa4 (a:=(j:Int)) (b:=1) (c:=((j-1:Nat):Int)) rfl rfl (Qaj (by omega) (by omega)) (Qaa (Qad (V:=I6 ((j-1:Nat):Int)) rfl (Qae ?_))))))))))))))))
   refine ⟨_,?_,_,i+1,j-1,((d1.setIfInBounds i (d1[j]!)).setIfInBounds j (d1[i]!)),Qah (Qah (Qam (ds:=[6,7,11,12,13,14,15,16,17,18,19,20,21,22,23,24,25,26,27,28,29,30,31]) (by repeat (first|exact Agr.refl _ _|refine Agr.upd ?_ rfl|refine Agr.mix ?_ rfl))) rfl) rfl,(by omega),(by omega),(by simp only [QQ5];exact hz1),(by rw [← hev,Qpy (d:=d1) c2];rfl),rfl,hs.take 1⟩
   omega
  ·
   replace c2:=QQ2 c2
   refine Qaz ?_
   refine ⟨_,Qbo Tryz.results133,?_⟩
   have hX:d1=Sort.reverseRange d lo hi:=by rw [← hev,QsM c2]
   exact ⟨(),rfl,hX ▸ hs.take 1,hX ▸ (by first|assumption|(simp only [QQ5,Go.Sort.size_swp];omega))⟩
end Tt
end Go.Proofs
namespace Go.Proofs
open Go Go.Vx Go.RowKit
open Go.Sort (ltInt medianAdjacent order2 partition)
namespace Tt
theorem Qp3 {n first k:Nat} {d:Array Int} (h:1≤k):Sort.heapBuild ltInt n first k d=Sort.heapBuild ltInt n first (k-1) (Sort.siftDown ltInt n first (k-1) d):=by
 obtain ⟨i,rfl⟩:∃ i,k=i+1:=⟨k-1,by omega⟩
 rfl
theorem QqB {first k:Nat} {d:Array Int} (h:1≤k):Sort.heapPop ltInt first k d=Sort.heapPop ltInt first (k-1) (Sort.siftDown ltInt (k-1) first 0 (Sort.swp d first (first+(k-1)))):=by
 obtain ⟨i,rfl⟩:∃ i,k=i+1:=⟨k-1,by omega⟩
 rfl
theorem QnF {n:Nat}:((n:Int)-1).tdiv 2=(((n-1)/2:Nat):Int):=by
 cases n with
 | zero=>rfl
 | succ m=>rw [show (((m+1:Nat):Int)-1)=(m:Int) by omega];rfl
theorem QqM (w:World) (S:Nat→Prop) (a:Option Addr) (N c:Nat) (d:Array Int) (hsz:d.size=N) (hN:N≤2305843009213693951) (lo hi:Nat) (h1:lo≤hi) (h2:hi≤N) (hR:(row (.slice a N c) (d.toList.map (ic .u16)) 31 1).holds w S) (hlt:∀ x,S x→x<w.heap.size):Calls Tryz.prog 130 #[.slice a N c,.int .i64 (lo:Int),.int .i64 (hi:Int)] w (fun e w'=>∃ x:Unit,e = .returned (.tuple #[])∧Own w S w' [row (.slice a N c) ((Sort.heapSort ltInt d lo hi).toList.map (ic .u16)) 31 1]∧(Sort.heapSort ltInt d lo hi).size=N):=by
 refine Qai (n:=56) Tryz.func130 rfl Tryz.ntmps130 rfl ?_
 have hs:=Own.lent hR hlt
 refine Qag (Qab (Qaa (Qac (V:=I6 (lo:Int)) rfl (Qaa (Qad (V:=I6 (lo:Int)) rfl (Qae (Qag (Qab (Qaa (Qad (V:=I6 0) rfl (Qae (Qag (Qab (Qaa (Qac (V:=I6 (hi:Int)) rfl (Qaa (Qac (V:=I6 (lo:Int)) rfl (Qaa (Qa4 (a:=(hi:Int)) (b:=(lo:Int)) (c:=((hi-lo:Nat):Int)) rfl rfl (Qaj (by omega) (by omega)) (Qaa (Qad (V:=I6 ((hi-lo:Nat):Int)) rfl (Qae (Qag (Qag (Qab (Qaa (Qac (V:=I6 ((hi-lo:Nat):Int)) rfl (Qaa (Qa4 (a:=((hi-lo:Nat):Int)) (b:=1) (c:=((hi-lo:Nat):Int)-1) rfl rfl (Qbh (by omega) (by omega)) (Qaa (Qbb (V:=I6 (IntKind.i64.wrap ((((hi-lo:Nat):Int)-1).tdiv 2))) (V':=I6 ((((hi-lo)-1)/2:Nat):Int)) (QiF rfl rfl (by omega) rfl ⟨rfl,rfl⟩) (congrArg (Value.int .i64) (by rw [QnF];exact Qaj rfl (by omega))) (Qaa (Qad (V:=I6 ((((hi-lo)-1)/2:Nat):Int)) rfl (Qae (Qak (Qax (fun ρ μ ρ' w'=>∃ (ρo:Env) (k:Nat) (d1:Array Int),ρ'=upd (mix [9,18,19,20,21,22,23,24,25,26] ρo ρ) 9 (I6 ((k:Int)-1))∧(k≤N+1)∧(d1.size=N)∧(Sort.heapPop ltInt lo (hi-lo) (Sort.heapBuild ltInt (hi-lo) lo k d1)=Sort.heapSort ltInt d lo hi)∧μ=2*k∧Own w S w' [row (.slice a N c) (d1.toList.map (ic .u16)) 31 1]) ?_ ?_))))))))))))))))))))))))))))))))))))
 ·exact ⟨_,_,((hi-lo)-1)/2+1,d,Qah (Qam (ds:=[9,18,19,20,21,22,23,24,25,26]) (Agr.refl _ _)) (congrArg (Value.int .i64) (by omega)),(by omega),hsz,rfl,rfl,hs⟩
 ·rintro μ ρ' w1 ⟨ρo,k,d1,rfl,hk,hz1,hev,rfl,hs⟩
  refine Qag (Qag (Qab (Qaa (Qac (V:=I6 ((k:Int)-1)) rfl (Qaa (QcN rfl rfl (Qae (Qal (t:=decide (0≤(k:Int)-1)) rfl (fun c2=>?_) (fun c2=>?_)))))))))
  ·
   replace c2:=QQ1 c2
   refine Qan (Qag (Qak (Qab (Qaa (Qac (V:=.slice a N c) rfl (Qaa (Qbb (V:=I6 ((k:Int)-1)) (V':=I6 ((k-1:Nat):Int)) (Qac (V:=I6 ((k:Int)-1)) rfl ⟨rfl,rfl⟩) (congrArg (Value.int .i64) (by omega)) (Qaa (Qac (V:=I6 ((hi-lo:Nat):Int)) rfl (Qaa (Qac (V:=I6 (lo:Int)) rfl (Qaa (Qbn (vs:=[.slice a N c,I6 ((k-1:Nat):Int),I6 ((hi-lo:Nat):Int),I6 (lo:Int)]) (V:=fun _:Unit=>.tuple #[]) (R:=row (.slice a N c) (d1.toList.map (ic .u16)) 31 1) (R':=fun _=>row (.slice a N c) ((Sort.siftDown ltInt (hi-lo) lo (k-1) d1).toList.map (ic .u16)) 31 1) (Lo:=fun _=>[]) (F:=fun _ _=>(Sort.siftDown ltInt (hi-lo) lo (k-1) d1).size=N) Qo7 rfl rfl hs 0 rfl (fun S hS hlt=>Qml _ S a N c d1 (by first|assumption|(simp only [QQ5,Go.Sort.size_swp];omega)) hN (k-1) (hi-lo) lo (by omega) (by omega) hS hlt) fun _ w3 hs hz4=>(Qae (Qab (Qaa (Qac (V:=I6 ((k:Int)-1)) rfl (Qaa (Qa4 (a:=(k:Int)-1) (b:=1) (c:=((k:Int)-1)-1) rfl rfl (Qbh (by omega) (by omega)) (Qaa (Qad (V:=I6 (((k:Int)-1)-1)) rfl (Qae ?_))))))))))))))))))))))
   refine ⟨_,?_,_,k-1,Sort.siftDown ltInt (hi-lo) lo (k-1) d1,Qah (Qam (ds:=[9,18,19,20,21,22,23,24,25,26]) (by repeat (first|exact Agr.refl _ _|refine Agr.upd ?_ rfl|refine Agr.mix ?_ rfl))) (congrArg (Value.int .i64) (by omega)),(by omega),(by assumption),(by rw [← hev,Qp3 (k:=k) (by omega)]),rfl,hs.take 1⟩
   omega
  ·
   replace c2:=QQ2 c2
   refine Qaz (Qag (Qab (Qaa (Qac (V:=I6 ((hi-lo:Nat):Int)) rfl (Qaa (Qa4 (a:=((hi-lo:Nat):Int)) (b:=1) (c:=((hi-lo:Nat):Int)-1) rfl rfl (Qbh (by omega) (by omega)) (Qaa (Qad (V:=I6 (((hi-lo:Nat):Int)-1)) rfl (Qae (Qak ?_))))))))))
   have hk0:k=0:=by omega
   subst hk0
   have hev1:Sort.heapPop ltInt lo (hi-lo) d1=Sort.heapSort ltInt d lo hi:=hev
   refine Qax (fun ρ μ ρ' w'=>∃ (ρo:Env) (q:Nat) (d2:Array Int),ρ'=upd (mix [10,29,30,31,32,33,34,35,36,37,38,39,40,41,42,43,44,45,46,47,48,49,50,51,52,53,54,55] ρo ρ) 10 (I6 ((q:Int)-1))∧(q≤hi-lo)∧(d2.size=N)∧(Sort.heapPop ltInt lo q d2=Sort.heapSort ltInt d lo hi)∧μ=2*q∧Own w S w' [row (.slice a N c) (d2.toList.map (ic .u16)) 31 1]) ?_ ?_
   ·exact ⟨_,_,hi-lo,d1,Qah (Qam (ds:=[10,29,30,31,32,33,34,35,36,37,38,39,40,41,42,43,44,45,46,47,48,49,50,51,52,53,54,55]) (Agr.refl _ _)) rfl,(Nat.le_refl _),hz1,hev1,rfl,hs⟩
   ·rintro μ ρ' w6 ⟨ρo,q,d2,rfl,hk2,hz2,hev2,rfl,hs⟩
    refine Qag (Qag (Qab (Qaa (Qac (V:=I6 ((q:Int)-1)) rfl (Qaa (QcN rfl rfl (Qae (Qal (t:=decide (0≤(q:Int)-1)) rfl (fun c7=>?_) (fun c7=>?_)))))))))
    ·
     replace c7:=QQ1 c7
     refine Qan (Qag (Qak (Qag (QaC HM [some 33,some 34,some 35,some 36,some 37,some 38,some 39,some 40,some 41,some 42,some 43,some 44,some 45,some 46,some 47,some 48,some 49,none,some 50,none] [] [0,0,0,0,0,24,0,0,0,384,960,1984,0,0,12288,28672,65475,131011,262143,524287] [pv (.slice a N c),pv (I6 (lo:Int)),pv (.slice a N c),pv (I6 (lo:Int)),pv (I6 ((q-1:Nat):Int)),pv (I6 ((lo+(q-1):Nat):Int)),pv (.slice a N c),pv (I6 (lo:Int)),pv (I6 ((q-1:Nat):Int)),pv (I6 ((lo+(q-1):Nat):Int)),pv (.pointer (some ⟨bkS (.slice a N c),ofS (.slice a N c)+((lo+(q-1):Nat):Int).toNat*1,none⟩)),pv (I7 (d2[lo+(q-1)]!)),pv (.slice a N c),pv (I6 (lo:Int)),pv (.pointer (some ⟨bkS (.slice a N c),ofS (.slice a N c)+(lo:Int).toNat*1,none⟩)),pv (I7 (d2[lo]!)),pv (.pointer (some ⟨bkS (.slice a N c),ofS (.slice a N c)+(lo:Int).toNat*1,none⟩)),pn,pv (.pointer (some ⟨bkS (.slice a N c),ofS (.slice a N c)+((lo+(q-1):Nat):Int).toNat*1,none⟩)),pn] (fun D ρ=>[cond (D 19) (row (.slice a N c) ((((d2.setIfInBounds lo (d2[lo+(q-1)]!)).setIfInBounds (lo+(q-1)) (d2[lo]!)).toList).map (ic .u16)) 31 1) (cond (D 17) (row (.slice a N c) (((d2.setIfInBounds lo (d2[lo+(q-1)]!)).toList).map (ic .u16)) 31 1) (row (.slice a N c) (d2.toList.map (ic .u16)) 31 1))]) [] (by kernel_rfl) hs ⟨?_,?_,?_,?_,?_,?_,?_,?_,?_,?_,?_,?_,?_,?_,?_,?_,?_,?_,?_,?_,trivial⟩ ?_))))
     ·exact ob [] [] rfl rfl fun D ρ w hs=>Qac (V:=.slice a N c) rfl ⟨rfl,hs⟩
     ·exact ob [] [] rfl rfl fun D ρ w hs=>Qac (V:=I6 (lo:Int)) rfl ⟨rfl,hs⟩
     ·exact ob [] [] rfl rfl fun D ρ w hs=>Qac (V:=.slice a N c) rfl ⟨rfl,hs⟩
     ·exact ob [] [] rfl rfl fun D ρ w hs=>Qac (V:=I6 (lo:Int)) rfl ⟨rfl,hs⟩
     ·exact ob [] [] rfl rfl fun D ρ w hs=>Qbb (V:=I6 ((q:Int)-1)) (V':=I6 ((q-1:Nat):Int)) (Qac (V:=I6 ((q:Int)-1)) rfl ⟨rfl,rfl⟩) (congrArg (Value.int .i64) (by omega)) ⟨rfl,hs⟩
     ·exact ob [3,4] [] rfl rfl fun D ρ w hs=>Qav (a:=(lo:Int)) (b:=((q-1:Nat):Int)) (c:=((lo+(q-1):Nat):Int)) rfl rfl (Qaj (by omega) (by omega)) ⟨rfl,hs⟩
     ·exact ob [] [] rfl rfl fun D ρ w hs=>Qac (V:=.slice a N c) rfl ⟨rfl,hs⟩
     ·exact ob [] [] rfl rfl fun D ρ w hs=>Qac (V:=I6 (lo:Int)) rfl ⟨rfl,hs⟩
     ·exact ob [] [] rfl rfl fun D ρ w hs=>Qbb (V:=I6 ((q:Int)-1)) (V':=I6 ((q-1:Nat):Int)) (Qac (V:=I6 ((q:Int)-1)) rfl ⟨rfl,rfl⟩) (congrArg (Value.int .i64) (by omega)) ⟨rfl,hs⟩
     ·exact ob [7,8] [] rfl rfl fun D ρ w hs=>Qav (a:=(lo:Int)) (b:=((q-1:Nat):Int)) (c:=((lo+(q-1):Nat):Int)) rfl rfl (Qaj (by omega) (by omega)) ⟨rfl,hs⟩
     ·exact ob [6,9] [17,19] rfl rfl fun D ρ w hs=>Qat QaI Qap.1 (hs.rd 0 rfl) rfl rfl (by omega) (by simp only [QQ6,QQ9,QQ5,Go.Sort.size_swp];omega) ⟨rfl,hs⟩
     ·exact ob [10] [17,19] rfl rfl fun D ρ w hs=>QaQ (j:=0) (V:=I7 (d2[lo+(q-1)]!)) (lo+(q-1)) Qap (hs.rd 0 rfl) (Qbk (by omega)) rfl rfl (by omega) ⟨rfl,hs⟩
     ·exact ob [] [] rfl rfl fun D ρ w hs=>Qac (V:=.slice a N c) rfl ⟨rfl,hs⟩
     ·exact ob [] [] rfl rfl fun D ρ w hs=>Qac (V:=I6 (lo:Int)) rfl ⟨rfl,hs⟩
     ·exact ob [12,13] [17,19] rfl rfl fun D ρ w hs=>Qat QaI Qap.1 (hs.rd 0 rfl) rfl rfl (by omega) (by simp only [QQ6,QQ9,QQ5,Go.Sort.size_swp];omega) ⟨rfl,hs⟩
     ·exact ob [14] [17,19] rfl rfl fun D ρ w hs=>QaQ (j:=0) (V:=I7 (d2[lo]!)) lo Qap (hs.rd 0 rfl) (Qbk (by omega)) rfl rfl (by omega) ⟨rfl,hs⟩
     ·exact ob [0,1] [17,19] rfl rfl fun D ρ w hs=>Qat QaI Qap.1 (hs.rd 0 rfl) rfl rfl (by omega) (by simp only [QQ6,QQ9,QQ5,Go.Sort.size_swp];omega) ⟨rfl,hs⟩
     ·exact ob [11,16] [19] rfl rfl fun D ρ w hs=>Qcf (z:=d2[lo+(q-1)]!) lo Qap hs 0 rfl rfl (by omega) (by first|omega|(simp only [QQ5,Go.Sort.size_swp];omega)) rfl rfl rfl fun _ hs=>⟨trivial,hs⟩
     ·exact ob [2,5,17] [19] rfl rfl fun D ρ w hs=>Qat QaI Qap.1 (hs.rd 0 rfl) rfl rfl (by omega) (by simp only [QQ6,QQ9,QQ5,Go.Sort.size_swp];omega) ⟨rfl,hs⟩
     ·exact ob [15,17,18] [] rfl rfl fun D ρ w hs=>Qcf (z:=d2[lo]!) (lo+(q-1)) Qap hs 0 rfl rfl (by omega) (by first|omega|(simp only [QQ5,Go.Sort.size_swp];omega)) rfl rfl rfl fun _ hs=>⟨trivial,hs⟩
     rintro ρ1 w10 ρ2 hρ hs
     replace hρ:ρ2=mix [33,34,35,36,37,38,39,40,41,42,43,44,45,46,47,48,49,50] ρ1 _:=hρ
     replace hs:Own w S w10 [row (.slice a N c) ((((d2.setIfInBounds lo (d2[lo+(q-1)]!)).setIfInBounds (lo+(q-1)) (d2[lo]!)).toList).map (ic .u16)) 31 1]:=hs
     subst hρ
     refine Qab (Qaa (Qac (V:=.slice a N c) rfl (Qaa (Qac (V:=I6 0) rfl (Qaa (Qbb (V:=I6 ((q:Int)-1)) (V':=I6 ((q-1:Nat):Int)) (Qac (V:=I6 ((q:Int)-1)) rfl ⟨rfl,rfl⟩) (congrArg (Value.int .i64) (by omega)) (Qaa (Qac (V:=I6 (lo:Int)) rfl (Qaa (Qbn (vs:=[.slice a N c,I6 0,I6 ((q-1:Nat):Int),I6 (lo:Int)]) (V:=fun _:Unit=>.tuple #[]) (R:=row (.slice a N c) (((d2.setIfInBounds lo (d2[lo+(q-1)]!)).setIfInBounds (lo+(q-1)) (d2[lo]!)).toList.map (ic .u16)) 31 1) (R':=fun _=>row (.slice a N c) ((Sort.siftDown ltInt (q-1) lo 0 ((d2.setIfInBounds lo (d2[lo+(q-1)]!)).setIfInBounds (lo+(q-1)) (d2[lo]!))).toList.map (ic .u16)) 31 1) (Lo:=fun _=>[]) (F:=fun _ _=>(Sort.siftDown ltInt (q-1) lo 0 ((d2.setIfInBounds lo (d2[lo+(q-1)]!)).setIfInBounds (lo+(q-1)) (d2[lo]!))).size=N) Qo7 rfl rfl hs 0 rfl (fun S hS hlt=>Qml _ S a N c ((d2.setIfInBounds lo (d2[lo+(q-1)]!)).setIfInBounds (lo+(q-1)) (d2[lo]!)) (by first|assumption|(simp only [QQ5,Go.Sort.size_swp];omega)) hN 0 (q-1) lo (by omega) (by omega) hS hlt) fun _ w11 hs hz12=>(Qae (Qab (Qaa (Qac (V:=I6 ((q:Int)-1)) rfl (Qaa (Qa4 (a:=(q:Int)-1) (b:=1) (c:=((q:Int)-1)-1) rfl rfl (Qbh (by omega) (by omega)) (Qaa (Qad (V:=I6 (((q:Int)-1)-1)) rfl (Qae ?_)))))))))))))))))))
     refine ⟨_,?_,_,q-1,Sort.siftDown ltInt (q-1) lo 0 ((d2.setIfInBounds lo (d2[lo+(q-1)]!)).setIfInBounds (lo+(q-1)) (d2[lo]!)),Qah (Qam (ds:=[10,29,30,31,32,33,34,35,36,37,38,39,40,41,42,43,44,45,46,47,48,49,50,51,52,53,54,55]) (by repeat (first|exact Agr.refl _ _|refine Agr.upd ?_ rfl|refine Agr.mix ?_ rfl))) (congrArg (Value.int .i64) (by omega)),(by omega),(by assumption),(by rw [← hev2,QqB (k:=q) (by omega)];rfl),rfl,hs.take 1⟩
     omega
    ·
     replace c7:=QQ2 c7
     refine Qaz ?_
     refine ⟨_,Qbo Tryz.results130,?_⟩
     have hk3:q=0:=by omega
     subst hk3
     have hX:d2=Sort.heapSort ltInt d lo hi:=hev2
     exact ⟨(),rfl,hX ▸ hs.take 1,hX ▸ (by first|assumption|(simp only [QQ5,Go.Sort.size_swp];omega))⟩
end Tt
end Go.Proofs
namespace Go.Proofs
open Go Go.Vx Go.RowKit
open Go.Sort (ltInt medianAdjacent order2 partition)
namespace Tt
section
variable {d:Array Int} {x y sw:Nat}
theorem Qsk (h:d[y]!<d[x]!):order2 ltInt d x y sw=(y,x,sw+1):=by unfold order2;rw [if_pos (by simpa [ltInt] using h)]
theorem Quq (h:¬d[y]!<d[x]!):order2 ltInt d x y sw=(x,y,sw):=by unfold order2;rw [if_neg (by simpa [ltInt] using h)]
theorem Qlc {N:Nat} (hx:x<N) (hy:y<N):(order2 ltInt d x y sw).1<N∧(order2 ltInt d x y sw).2.1<N∧(order2 ltInt d x y sw).2.2≤sw+1:=by
 unfold order2;split<;>simp [hx,hy]
end
theorem Qr1 {d:Array Int} {N x y z sw:Nat} (hx:x<N) (hy:y<N) (hz:z<N):(Sort.median ltInt d x y z sw).1<N∧(Sort.median ltInt d x y z sw).2≤sw+3:=by
 unfold Sort.median
 have h1:=Qlc (d:=d) (sw:=sw) hx hy
 have h2:=Qlc (d:=d) (sw:=(order2 ltInt d x y sw).2.2) h1.2.1 hz
 have h3:=Qlc (d:=d) (sw:=(order2 ltInt d (order2 ltInt d x y sw).2.1 z (order2 ltInt d x y sw).2.2).2.2) h1.1 h2.1
 exact ⟨h3.2.1,Nat.le_trans h3.2.2 (Nat.succ_le_succ (Nat.le_trans h2.2.2 (Nat.succ_le_succ h1.2.2)))⟩
theorem QmF {d:Array Int} {N x sw:Nat} (h1:1≤x) (hx:x+1<N):(medianAdjacent ltInt d x sw).1<N∧(medianAdjacent ltInt d x sw).2≤sw+3:=Qr1 (by omega) (by omega) (by omega)
theorem QpC (w:World) (S:Nat→Prop) (a:Option Addr) (N c:Nat) (d:Array Int) (hsz:d.size=N) (hN:N≤2305843009213693951) (sb sw:Nat) (hsw:sw≤1000) (hr:Rd w (.slice a N c) 1 (d.toList.map (ic .u16))) (hb:bkS (.slice a N c)<w.heap.size) (hm:¬S (bkS (.slice a N c))) (hR:(blk sb [.int .i64 (sw:Int)] 3).holds w S) (hlt:∀ x,S x→x<w.heap.size) (x y:Nat) (hx:x<N) (hy:y<N):Calls Tryz.prog 149 #[.slice a N c,.int .i64 (x:Int),.int .i64 (y:Int),.pointer (some ⟨sb,0,none⟩)] w (fun e w'=>∃ _u:Unit,e = .returned (.tuple #[.int .i64 (((order2 ltInt d x y sw).1:Nat):Int),.int .i64 (((order2 ltInt d x y sw).2.1:Nat):Int)])∧Own w S w' [blk sb [.int .i64 (((order2 ltInt d x y sw).2.2:Nat):Int)] 3]∧True):=by
 refine Qai (n:=28) Tryz.func149 rfl Tryz.ntmps149 rfl ?_
 have hs:=Own.lent hR hlt
 refine Qag (Qab (Qaa (Qad (V:=I6 0) rfl (Qaa (Qad (V:=I6 0) rfl (Qae (Qag (Qag (QaC HM [some 10,some 11,some 12,some 13,some 14,some 15,some 16,some 17,some 18] [] [0,0,3,7,0,0,48,112,255] [pv (.slice a N c),pv (I6 (y:Int)),pv (.pointer (some ⟨bkS (.slice a N c),ofS (.slice a N c)+(y:Int).toNat*1,none⟩)),pv (I7 (d[y]!)),pv (.slice a N c),pv (I6 (x:Int)),pv (.pointer (some ⟨bkS (.slice a N c),ofS (.slice a N c)+(x:Int).toNat*1,none⟩)),pv (I7 (d[x]!)),pv (.bool (decide (d[y]!<d[x]!)))] (fun _ _=>_) [8] (by kernel_rfl) hs ⟨?_,?_,?_,?_,?_,?_,?_,?_,?_,trivial⟩ ?_)))))))))
 ·exact ob [] [] rfl rfl fun D ρ w hs=>Qac (V:=.slice a N c) rfl ⟨rfl,hs⟩
 ·exact ob [] [] rfl rfl fun D ρ w hs=>Qac (V:=I6 (y:Int)) rfl ⟨rfl,hs⟩
 ·exact ob [0,1] [] rfl rfl fun D ρ w hs=>Qat QaI Qap.1 (Rd.ownS hm hr hs) rfl rfl (by omega) (by simp only [QQ6,QQ9,QQ5,Go.Sort.size_swp];omega) ⟨rfl,hs⟩
 ·exact ob [2] [] rfl rfl fun D ρ w hs=>QaQ (j:=0) (V:=I7 (d[y]!)) y Qap (Rd.ownS hm hr hs) (Qbk (by omega)) rfl rfl (by omega) ⟨rfl,hs⟩
 ·exact ob [] [] rfl rfl fun D ρ w hs=>Qac (V:=.slice a N c) rfl ⟨rfl,hs⟩
 ·exact ob [] [] rfl rfl fun D ρ w hs=>Qac (V:=I6 (x:Int)) rfl ⟨rfl,hs⟩
 ·exact ob [4,5] [] rfl rfl fun D ρ w hs=>Qat QaI Qap.1 (Rd.ownS hm hr hs) rfl rfl (by omega) (by simp only [QQ6,QQ9,QQ5,Go.Sort.size_swp];omega) ⟨rfl,hs⟩
 ·exact ob [6] [] rfl rfl fun D ρ w hs=>QaQ (j:=0) (V:=I7 (d[x]!)) x Qap (Rd.ownS hm hr hs) (Qbk (by omega)) rfl rfl (by omega) ⟨rfl,hs⟩
 ·exact ob [3,7] [] rfl rfl fun D ρ w hs=>Qar (vs:=[I7 (d[y]!),I7 (d[x]!)]) (V:=.bool (decide (d[y]!<d[x]!))) Qc3 rfl rfl (Qcl _ (d[y]!) (d[x]!)) hs fun _ hs=>⟨rfl,hs⟩
 rintro ρ1 w2 ρ2 hρ hs
 replace hρ:ρ2=upd (mix [10,11,12,13,14,15,16,17,18] ρ1 _) 18 (.bool (decide (d[y]!<d[x]!))):=hρ
 subst hρ
 refine Qal (t:=decide (d[y]!<d[x]!)) rfl (fun c3=>?_) (fun c3=>?_)
 ·
  replace c3:=QQ1 c3
  refine Qag (Qab (Qaa (Qac (V:=Pt sb 0) rfl (Qaa (QcD rfl (Qaa (QaK (V:=I6 (sw:Int)) Qql hs 0 rfl rfl rfl (Qaa (Qav (a:=(sw:Int)) (b:=1) (c:=((sw+1:Nat):Int)) rfl rfl (Qaj (by omega) (by omega)) (Qaa (QcD rfl (Qaa (Qdd (V:=I6 ((sw+1:Nat):Int)) (cs':=[I6 ((sw+1:Nat):Int)]) Qql hs 0 rfl rfl rfl rfl (QQ8 rfl) rfl fun w4 hs=>(Qae (Qag (Qab (Qaa (Qac (V:=I6 (y:Int)) rfl (Qaa (Qac (V:=I6 (x:Int)) rfl (Qaa (Qad (V:=I6 (y:Int)) rfl (Qaa (Qad (V:=I6 (x:Int)) rfl (Qae (Qas ?_))))))))))))))))))))))))))
  refine ⟨_,Qce (U:=I6 (y:Int)) (V:=I6 (x:Int)) Tryz.results149 rfl rfl,?_⟩
  rw [Qsk c3]
  exact ⟨(),rfl,hs.take 1,trivial⟩
 ·
  replace c3:=QQ2 c3
  refine Qan (Qag (Qab (Qaa (Qac (V:=I6 (x:Int)) rfl (Qaa (Qac (V:=I6 (y:Int)) rfl (Qaa (Qad (V:=I6 (x:Int)) rfl (Qaa (Qad (V:=I6 (y:Int)) rfl (Qae (Qas ?_))))))))))))
  refine ⟨_,Qce (U:=I6 (x:Int)) (V:=I6 (y:Int)) Tryz.results149 rfl rfl,?_⟩
  rw [Quq c3]
  exact ⟨(),rfl,hs.take 1,trivial⟩
theorem Ql8 (w:World) (S:Nat→Prop) (a:Option Addr) (N c:Nat) (d:Array Int) (hsz:d.size=N) (hN:N≤2305843009213693951) (sb sw:Nat) (hsw:sw≤900) (hr:Rd w (.slice a N c) 1 (d.toList.map (ic .u16))) (hb:bkS (.slice a N c)<w.heap.size) (hm:¬S (bkS (.slice a N c))) (hR:(blk sb [.int .i64 (sw:Int)] 3).holds w S) (hlt:∀ x,S x→x<w.heap.size) (x y z:Nat) (hx:x<N) (hy:y<N) (hz:z<N):Calls Tryz.prog 147 #[.slice a N c,.int .i64 (x:Int),.int .i64 (y:Int),.int .i64 (z:Int),.pointer (some ⟨sb,0,none⟩)] w (fun e w'=>∃ _u:Unit,e = .returned (.int .i64 (((Sort.median ltInt d x y z sw).1:Nat):Int))∧Own w S w' [blk sb [.int .i64 (((Sort.median ltInt d x y z sw).2:Nat):Int)] 3]∧True):=by
 refine Qai (n:=36) Tryz.func147 rfl Tryz.ntmps147 rfl ?_
 have hs:=Own.lent hR hlt
 refine Qag (Qab (Qaa (Qad (V:=I6 0) rfl (Qae (Qag (Qab (Qaa (Qac (V:=.slice a N c) rfl (Qaa (Qac (V:=I6 (x:Int)) rfl (Qaa (Qac (V:=I6 (y:Int)) rfl (Qaa (Qac (V:=Pt sb 0) rfl (Qaa (QcY (vs:=[.slice a N c,I6 (x:Int),I6 (y:Int),Pt sb 0]) (V:=fun _:Unit=>.tuple #[I6 (((order2 ltInt d x y sw).1:Nat):Int),I6 (((order2 ltInt d x y sw).2.1:Nat):Int)]) (R:=blk sb [I6 (sw:Int)] 3) (R':=fun _=>blk sb [I6 (((order2 ltInt d x y sw).2.2:Nat):Int)] 3) (Lo:=fun _=>[]) (F:=fun _ _=>True) Qlm rfl rfl hs 0 rfl (fun S hS hlt hSM=>QpC _ S a N c d hsz hN sb sw (by omega) (Rd.ownS hm hr hs) (Nat.lt_of_lt_of_le hb hs.size) (fun h=>hm (hSM _ h hb)) hS hlt x y (by omega) (by omega)) fun _ w1 hs _=>(Qaa (Qac (V:=.tuple #[I6 (((order2 ltInt d x y sw).1:Nat):Int),I6 (((order2 ltInt d x y sw).2.1:Nat):Int)]) rfl (Qaa (QaB (V:=I6 (((order2 ltInt d x y sw).1:Nat):Int)) rfl rfl (Qaa (QaB (V:=I6 (((order2 ltInt d x y sw).2.1:Nat):Int)) rfl rfl (Qaa (Qad (V:=I6 (((order2 ltInt d x y sw).1:Nat):Int)) rfl (Qaa (Qad (V:=I6 (((order2 ltInt d x y sw).2.1:Nat):Int)) rfl (Qae (Qag ?_))))))))))))))))))))))))))))
 have hq1:=Qlc (d:=d) (sw:=sw) hx hy
 refine Qab (Qaa (Qac (V:=.slice a N c) rfl (Qaa (Qac (V:=I6 (((order2 ltInt d x y sw).2.1:Nat):Int)) rfl (Qaa (Qac (V:=I6 (z:Int)) rfl (Qaa (Qac (V:=Pt sb 0) rfl (Qaa (QcY (vs:=[.slice a N c,I6 (((order2 ltInt d x y sw).2.1:Nat):Int),I6 (z:Int),Pt sb 0]) (V:=fun _:Unit=>.tuple #[I6 (((order2 ltInt d ((order2 ltInt d x y sw).2.1) z ((order2 ltInt d x y sw).2.2)).1:Nat):Int),I6 (((order2 ltInt d ((order2 ltInt d x y sw).2.1) z ((order2 ltInt d x y sw).2.2)).2.1:Nat):Int)]) (R:=blk sb [I6 (((order2 ltInt d x y sw).2.2:Nat):Int)] 3) (R':=fun _=>blk sb [I6 (((order2 ltInt d ((order2 ltInt d x y sw).2.1) z ((order2 ltInt d x y sw).2.2)).2.2:Nat):Int)] 3) (Lo:=fun _=>[]) (F:=fun _ _=>True) Qlm rfl rfl hs 0 rfl (fun S hS hlt hSM=>QpC _ S a N c d hsz hN sb ((order2 ltInt d x y sw).2.2) (by omega) (Rd.ownS hm hr hs) (Nat.lt_of_lt_of_le hb hs.size) (fun h=>hm (hSM _ h hb)) hS hlt ((order2 ltInt d x y sw).2.1) z (by omega) (by omega)) fun _ w2 hs _=>(Qaa (Qac (V:=.tuple #[I6 (((order2 ltInt d ((order2 ltInt d x y sw).2.1) z ((order2 ltInt d x y sw).2.2)).1:Nat):Int),I6 (((order2 ltInt d ((order2 ltInt d x y sw).2.1) z ((order2 ltInt d x y sw).2.2)).2.1:Nat):Int)]) rfl (Qaa (QaB (V:=I6 (((order2 ltInt d ((order2 ltInt d x y sw).2.1) z ((order2 ltInt d x y sw).2.2)).1:Nat):Int)) rfl rfl (Qaa (QaB (V:=I6 (((order2 ltInt d ((order2 ltInt d x y sw).2.1) z ((order2 ltInt d x y sw).2.2)).2.1:Nat):Int)) rfl rfl (Qaa (Qad (V:=I6 (((order2 ltInt d ((order2 ltInt d x y sw).2.1) z ((order2 ltInt d x y sw).2.2)).1:Nat):Int)) rfl (Qaa (Qad (V:=I6 (((order2 ltInt d ((order2 ltInt d x y sw).2.1) z ((order2 ltInt d x y sw).2.2)).2.1:Nat):Int)) rfl (Qae (Qag ?_))))))))))))))))))))))
 have hq2:=Qlc (d:=d) (sw:=(order2 ltInt d x y sw).2.2) hq1.2.1 hz
 refine Qab (Qaa (Qac (V:=.slice a N c) rfl (Qaa (Qac (V:=I6 (((order2 ltInt d x y sw).1:Nat):Int)) rfl (Qaa (Qac (V:=I6 (((order2 ltInt d ((order2 ltInt d x y sw).2.1) z ((order2 ltInt d x y sw).2.2)).1:Nat):Int)) rfl (Qaa (Qac (V:=Pt sb 0) rfl (Qaa (QcY (vs:=[.slice a N c,I6 (((order2 ltInt d x y sw).1:Nat):Int),I6 (((order2 ltInt d ((order2 ltInt d x y sw).2.1) z ((order2 ltInt d x y sw).2.2)).1:Nat):Int),Pt sb 0]) (V:=fun _:Unit=>.tuple #[I6 (((order2 ltInt d ((order2 ltInt d x y sw).1) ((order2 ltInt d ((order2 ltInt d x y sw).2.1) z ((order2 ltInt d x y sw).2.2)).1) ((order2 ltInt d ((order2 ltInt d x y sw).2.1) z ((order2 ltInt d x y sw).2.2)).2.2)).1:Nat):Int),I6 (((order2 ltInt d ((order2 ltInt d x y sw).1) ((order2 ltInt d ((order2 ltInt d x y sw).2.1) z ((order2 ltInt d x y sw).2.2)).1) ((order2 ltInt d ((order2 ltInt d x y sw).2.1) z ((order2 ltInt d x y sw).2.2)).2.2)).2.1:Nat):Int)]) (R:=blk sb [I6 (((order2 ltInt d ((order2 ltInt d x y sw).2.1) z ((order2 ltInt d x y sw).2.2)).2.2:Nat):Int)] 3) (R':=fun _=>blk sb [I6 (((order2 ltInt d ((order2 ltInt d x y sw).1) ((order2 ltInt d ((order2 ltInt d x y sw).2.1) z ((order2 ltInt d x y sw).2.2)).1) ((order2 ltInt d ((order2 ltInt d x y sw).2.1) z ((order2 ltInt d x y sw).2.2)).2.2)).2.2:Nat):Int)] 3) (Lo:=fun _=>[]) (F:=fun _ _=>True) Qlm rfl rfl hs 0 rfl (fun S hS hlt hSM=>QpC _ S a N c d hsz hN sb ((order2 ltInt d ((order2 ltInt d x y sw).2.1) z ((order2 ltInt d x y sw).2.2)).2.2) (by omega) (Rd.ownS hm hr hs) (Nat.lt_of_lt_of_le hb hs.size) (fun h=>hm (hSM _ h hb)) hS hlt ((order2 ltInt d x y sw).1) ((order2 ltInt d ((order2 ltInt d x y sw).2.1) z ((order2 ltInt d x y sw).2.2)).1) (by omega) (by omega)) fun _ w3 hs _=>(Qaa (Qac (V:=.tuple #[I6 (((order2 ltInt d ((order2 ltInt d x y sw).1) ((order2 ltInt d ((order2 ltInt d x y sw).2.1) z ((order2 ltInt d x y sw).2.2)).1) ((order2 ltInt d ((order2 ltInt d x y sw).2.1) z ((order2 ltInt d x y sw).2.2)).2.2)).1:Nat):Int),I6 (((order2 ltInt d ((order2 ltInt d x y sw).1) ((order2 ltInt d ((order2 ltInt d x y sw).2.1) z ((order2 ltInt d x y sw).2.2)).1) ((order2 ltInt d ((order2 ltInt d x y sw).2.1) z ((order2 ltInt d x y sw).2.2)).2.2)).2.1:Nat):Int)]) rfl (Qaa (QaB (V:=I6 (((order2 ltInt d ((order2 ltInt d x y sw).1) ((order2 ltInt d ((order2 ltInt d x y sw).2.1) z ((order2 ltInt d x y sw).2.2)).1) ((order2 ltInt d ((order2 ltInt d x y sw).2.1) z ((order2 ltInt d x y sw).2.2)).2.2)).1:Nat):Int)) rfl rfl (Qaa (QaB (V:=I6 (((order2 ltInt d ((order2 ltInt d x y sw).1) ((order2 ltInt d ((order2 ltInt d x y sw).2.1) z ((order2 ltInt d x y sw).2.2)).1) ((order2 ltInt d ((order2 ltInt d x y sw).2.1) z ((order2 ltInt d x y sw).2.2)).2.2)).2.1:Nat):Int)) rfl rfl (Qaa (Qad (V:=I6 (((order2 ltInt d ((order2 ltInt d x y sw).1) ((order2 ltInt d ((order2 ltInt d x y sw).2.1) z ((order2 ltInt d x y sw).2.2)).1) ((order2 ltInt d ((order2 ltInt d x y sw).2.1) z ((order2 ltInt d x y sw).2.2)).2.2)).1:Nat):Int)) rfl (Qaa (Qad (V:=I6 (((order2 ltInt d ((order2 ltInt d x y sw).1) ((order2 ltInt d ((order2 ltInt d x y sw).2.1) z ((order2 ltInt d x y sw).2.2)).1) ((order2 ltInt d ((order2 ltInt d x y sw).2.1) z ((order2 ltInt d x y sw).2.2)).2.2)).2.1:Nat):Int)) rfl (Qae (Qag (Qab (Qaa (Qac (V:=I6 (((order2 ltInt d ((order2 ltInt d x y sw).1) ((order2 ltInt d ((order2 ltInt d x y sw).2.1) z ((order2 ltInt d x y sw).2.2)).1) ((order2 ltInt d ((order2 ltInt d x y sw).2.1) z ((order2 ltInt d x y sw).2.2)).2.2)).2.1:Nat):Int)) rfl (Qaa (Qad (V:=I6 (((order2 ltInt d ((order2 ltInt d x y sw).1) ((order2 ltInt d ((order2 ltInt d x y sw).2.1) z ((order2 ltInt d x y sw).2.2)).1) ((order2 ltInt d ((order2 ltInt d x y sw).2.1) z ((order2 ltInt d x y sw).2.2)).2.2)).2.1:Nat):Int)) rfl (Qae (Qas ?_)))))))))))))))))))))))))))))
 refine ⟨_,Qao (V:=I6 (((order2 ltInt d ((order2 ltInt d x y sw).1) ((order2 ltInt d ((order2 ltInt d x y sw).2.1) z ((order2 ltInt d x y sw).2.2)).1) ((order2 ltInt d ((order2 ltInt d x y sw).2.1) z ((order2 ltInt d x y sw).2.2)).2.2)).2.1:Nat):Int)) Tryz.results147 rfl,?_⟩
 exact ⟨(),rfl,hs.take 1,trivial⟩
theorem Qmj (w:World) (S:Nat→Prop) (a:Option Addr) (N c:Nat) (d:Array Int) (hsz:d.size=N) (hN:N≤2305843009213693951) (sb sw:Nat) (hsw:sw≤900) (hr:Rd w (.slice a N c) 1 (d.toList.map (ic .u16))) (hb:bkS (.slice a N c)<w.heap.size) (hm:¬S (bkS (.slice a N c))) (hR:(blk sb [.int .i64 (sw:Int)] 3).holds w S) (hlt:∀ x,S x→x<w.heap.size) (x:Nat) (hx:1≤x) (hy:x+1<N):Calls Tryz.prog 146 #[.slice a N c,.int .i64 (x:Int),.pointer (some ⟨sb,0,none⟩)] w (fun e w'=>∃ _u:Unit,e = .returned (.int .i64 (((medianAdjacent ltInt d x sw).1:Nat):Int))∧Own w S w' [blk sb [.int .i64 (((medianAdjacent ltInt d x sw).2:Nat):Int)] 3]∧True):=by
 refine Qai (n:=15) Tryz.func146 rfl Tryz.ntmps146 rfl ?_
 have hs:=Own.lent hR hlt
 refine Qag (Qab (Qaa (Qad (V:=I6 0) rfl (Qae (Qag (Qab (Qaa (Qac (V:=.slice a N c) rfl (Qaa (Qac (V:=I6 (x:Int)) rfl (Qaa (Qa4 (a:=(x:Int)) (b:=1) (c:=((x-1:Nat):Int)) rfl rfl (Qaj (by omega) (by omega)) (Qaa (Qac (V:=I6 (x:Int)) rfl (Qaa (Qac (V:=I6 (x:Int)) rfl (Qaa (Qav (a:=(x:Int)) (b:=1) (c:=((x+1:Nat):Int)) rfl rfl (Qaj (by omega) (by omega)) (Qaa (Qac (V:=Pt sb 0) rfl (Qaa (QcY (vs:=[.slice a N c,I6 ((x-1:Nat):Int),I6 (x:Int),I6 ((x+1:Nat):Int),Pt sb 0]) (V:=fun _:Unit=>I6 (((Sort.median ltInt d (x-1) x (x+1) sw).1:Nat):Int)) (R:=blk sb [I6 (sw:Int)] 3) (R':=fun _=>blk sb [I6 (((Sort.median ltInt d (x-1) x (x+1) sw).2:Nat):Int)] 3) (Lo:=fun _=>[]) (F:=fun _ _=>True) QmH rfl rfl hs 0 rfl (fun S hS hlt hSM=>Ql8 _ S a N c d hsz hN sb sw (by omega) (Rd.ownS hm hr hs) (Nat.lt_of_lt_of_le hb hs.size) (fun h=>hm (hSM _ h hb)) hS hlt (x-1) x (x+1) (by omega) (by omega) (by omega)) fun _ w1 hs _=>(Qaa (Qad (V:=I6 (((Sort.median ltInt d (x-1) x (x+1) sw).1:Nat):Int)) rfl (Qae (Qas ?_))))))))))))))))))))))))))
 refine ⟨_,Qao (V:=I6 (((Sort.median ltInt d (x-1) x (x+1) sw).1:Nat):Int)) Tryz.results146 rfl,?_⟩
 exact ⟨(),rfl,hs.take 1,trivial⟩
end Tt
end Go.Proofs
namespace Go.Proofs
open Go Go.Vx Go.RowKit
open Go.Sort (ltInt medianAdjacent order2 partition)
namespace Tt
def QcA:Sort.Hint→Int
 | .unknown=>0
 | .increasing=>1
 | .decreasing=>2
def cpR (d:Array Int) (lo hi:Nat):Nat × Nat:=if hi-lo ≥ 8 then (if hi-lo ≥ 50 then Sort.median ltInt d (medianAdjacent ltInt d (lo+((hi-lo)/4)*1) (0)).1 (medianAdjacent ltInt d (lo+((hi-lo)/4)*2) ((medianAdjacent ltInt d (lo+((hi-lo)/4)*1) (0)).2)).1 (medianAdjacent ltInt d (lo+((hi-lo)/4)*3) ((medianAdjacent ltInt d (lo+((hi-lo)/4)*2) ((medianAdjacent ltInt d (lo+((hi-lo)/4)*1) (0)).2)).2)).1 (medianAdjacent ltInt d (lo+((hi-lo)/4)*3) ((medianAdjacent ltInt d (lo+((hi-lo)/4)*2) ((medianAdjacent ltInt d (lo+((hi-lo)/4)*1) (0)).2)).2)).2 else Sort.median ltInt d (lo+((hi-lo)/4)*1) (lo+((hi-lo)/4)*2) (lo+((hi-lo)/4)*3) 0) else (lo+((hi-lo)/4)*2,0)
theorem Qul (d:Array Int) (lo hi:Nat):Sort.choosePivot ltInt d lo hi=((cpR d lo hi).1,if (cpR d lo hi).2=0 then .increasing else if (cpR d lo hi).2=12 then .decreasing else .unknown):=rfl
theorem QiP {d:Array Int} {lo hi:Nat} {X:Nat × Nat} {h:Sort.Hint} (hR:cpR d lo hi=X) (hh:(if X.2=0 then Sort.Hint.increasing else if X.2=12 then .decreasing else .unknown)=h):Sort.choosePivot ltInt d lo hi=(X.1,h):=by
 rw [Qul,hR,hh]
theorem Qrr (w:World) (a:Option Addr) (N c:Nat) (d:Array Int) (hsz:d.size=N) (hN:N≤2305843009213693951) (hr:Rd w (.slice a N c) 1 (d.toList.map (ic .u16))) (lo hi:Nat) (h1:lo<hi) (h2:hi≤N):Calls Tryz.prog 132 #[.slice a N c,.int .i64 (lo:Int),.int .i64 (hi:Int)] w (fun e w'=>e = .returned (.tuple #[.int .i64 (((Sort.choosePivot ltInt d lo hi).1:Nat):Int),.int .i64 (QcA (Sort.choosePivot ltInt d lo hi).2)])∧Own w no w' []):=by
 refine Qai (n:=57) Tryz.func132 rfl Tryz.ntmps132 rfl ?_
 have hs:=Own.start w
 have hb:bkS (.slice a N c)<w.heap.size:=hr.bk_lt (by simp only [QQ6,QQ9];omega)
 refine Qag (Qab (Qaa (Qad (V:=I6 0) rfl (Qaa (Qad (V:=I6 0) rfl (Qae (Qag (Qab (Qaa (Qac (V:=I6 (hi:Int)) rfl (Qaa (Qac (V:=I6 (lo:Int)) rfl (Qaa (Qa4 (a:=(hi:Int)) (b:=(lo:Int)) (c:=((hi-lo:Nat):Int)) rfl rfl (Qaj (by omega) (by omega)) (Qaa (Qad (V:=I6 ((hi-lo:Nat):Int)) rfl (Qae (Qag (Qab (Qaa (QaJ (cs:=[I6 0]) QuP rfl hs fun b1 w2 hs=>(Qae (Qag (Qab (Qaa (Qac (V:=I6 (lo:Int)) rfl (Qaa (Qac (V:=I6 ((hi-lo:Nat):Int)) rfl (Qaa (QiF (a:=((hi-lo:Nat):Int)) (b:=4) (c:=(((hi-lo)/4:Nat):Int)) rfl rfl (by decide) (Qaj rfl (by omega)) (Qaa (Qgk (a:=(((hi-lo)/4:Nat):Int)) (b:=1) (c:=((((hi-lo)/4)*1:Nat):Int)) rfl rfl (Qaj (by omega) (by omega)) (Qaa (Qav (a:=(lo:Int)) (b:=((((hi-lo)/4)*1:Nat):Int)) (c:=((lo+(((hi-lo)/4)*1):Nat):Int)) rfl rfl (Qaj (by omega) (by omega)) (Qaa (Qad (V:=I6 ((lo+(((hi-lo)/4)*1):Nat):Int)) rfl (Qae (Qag (Qab (Qaa (Qac (V:=I6 (lo:Int)) rfl (Qaa (Qac (V:=I6 ((hi-lo:Nat):Int)) rfl (Qaa (QiF (a:=((hi-lo:Nat):Int)) (b:=4) (c:=(((hi-lo)/4:Nat):Int)) rfl rfl (by decide) (Qaj rfl (by omega)) (Qaa (Qgk (a:=(((hi-lo)/4:Nat):Int)) (b:=2) (c:=((((hi-lo)/4)*2:Nat):Int)) rfl rfl (Qaj (by omega) (by omega)) (Qaa (Qav (a:=(lo:Int)) (b:=((((hi-lo)/4)*2:Nat):Int)) (c:=((lo+(((hi-lo)/4)*2):Nat):Int)) rfl rfl (Qaj (by omega) (by omega)) (Qaa (Qad (V:=I6 ((lo+(((hi-lo)/4)*2):Nat):Int)) rfl (Qae (Qag (Qab (Qaa (Qac (V:=I6 (lo:Int)) rfl (Qaa (Qac (V:=I6 ((hi-lo:Nat):Int)) rfl (Qaa (QiF (a:=((hi-lo:Nat):Int)) (b:=4) (c:=(((hi-lo)/4:Nat):Int)) rfl rfl (by decide) (Qaj rfl (by omega)) (Qaa (Qgk (a:=(((hi-lo)/4:Nat):Int)) (b:=3) (c:=((((hi-lo)/4)*3:Nat):Int)) rfl rfl (Qaj (by omega) (by omega)) (Qaa (Qav (a:=(lo:Int)) (b:=((((hi-lo)/4)*3:Nat):Int)) (c:=((lo+(((hi-lo)/4)*3):Nat):Int)) rfl rfl (Qaj (by omega) (by omega)) ?_))))))))))))))))))))))))))))))))))))))))))))))))))))))))))))))))
 refine Qaa (Qad (V:=I6 ((lo+(((hi-lo)/4)*3):Nat):Int)) rfl (Qae (Qag (Qag (Qab (Qaa (Qac (V:=I6 ((hi-lo:Nat):Int)) rfl (Qaa (QcN rfl rfl (Qae (Qal (t:=decide (8≤((hi-lo:Nat):Int))) rfl (fun c3=>?_) (fun c3=>?_))))))))))))
 ·
  replace c3:=QQ1 c3
  refine Qag (Qag (Qab (Qaa (Qac (V:=I6 ((hi-lo:Nat):Int)) rfl (Qaa (QcN rfl rfl (Qae (Qal (t:=decide (50≤((hi-lo:Nat):Int))) rfl (fun c4=>?_) (fun c4=>?_)))))))))
  ·
   replace c4:=QQ1 c4
   refine Qag (Qab (Qaa (Qac (V:=.slice a N c) rfl (Qaa (Qac (V:=I6 ((lo+(((hi-lo)/4)*1):Nat):Int)) rfl (Qaa (QcY (vs:=[.slice a N c,I6 ((lo+(((hi-lo)/4)*1):Nat):Int),Pt b1 0]) (V:=fun _:Unit=>I6 (((medianAdjacent ltInt d (lo+(((hi-lo)/4)*1)) 0).1:Nat):Int)) (R:=blk b1 [I6 (0:Int)] 3) (R':=fun _=>blk b1 [I6 (((medianAdjacent ltInt d (lo+(((hi-lo)/4)*1)) 0).2:Nat):Int)] 3) (Lo:=fun _=>[]) (F:=fun _ _=>True) QkG rfl rfl hs 0 rfl (fun S hS hlt hSM=>Qmj _ S a N c d hsz hN b1 0 (by omega) (Rd.own' hr hs) (Nat.lt_of_lt_of_le hb hs.size) (fun h=>hSM _ h hb) hS hlt (lo+(((hi-lo)/4)*1)) (by omega) (by omega)) fun _ w5 hs _=>(Qaa (Qad (V:=I6 (((medianAdjacent ltInt d (lo+(((hi-lo)/4)*1)) 0).1:Nat):Int)) rfl (Qae (Qag ?_)))))))))))
   have hq1:=QmF (d:=d) (sw:=0) (N:=N) (x:=lo+((hi-lo)/4)*1) (by omega) (by omega)
   refine Qab (Qaa (Qac (V:=.slice a N c) rfl (Qaa (Qac (V:=I6 ((lo+(((hi-lo)/4)*2):Nat):Int)) rfl (Qaa (QcY (vs:=[.slice a N c,I6 ((lo+(((hi-lo)/4)*2):Nat):Int),Pt b1 0]) (V:=fun _:Unit=>I6 (((medianAdjacent ltInt d (lo+(((hi-lo)/4)*2)) ((medianAdjacent ltInt d (lo+(((hi-lo)/4)*1)) 0).2)).1:Nat):Int)) (R:=blk b1 [I6 (((medianAdjacent ltInt d (lo+(((hi-lo)/4)*1)) 0).2:Nat):Int)] 3) (R':=fun _=>blk b1 [I6 (((medianAdjacent ltInt d (lo+(((hi-lo)/4)*2)) ((medianAdjacent ltInt d (lo+(((hi-lo)/4)*1)) 0).2)).2:Nat):Int)] 3) (Lo:=fun _=>[]) (F:=fun _ _=>True) QkG rfl rfl hs 0 rfl (fun S hS hlt hSM=>Qmj _ S a N c d hsz hN b1 ((medianAdjacent ltInt d (lo+(((hi-lo)/4)*1)) 0).2) (by omega) (Rd.own' hr hs) (Nat.lt_of_lt_of_le hb hs.size) (fun h=>hSM _ h hb) hS hlt (lo+(((hi-lo)/4)*2)) (by omega) (by omega)) fun _ w6 hs _=>(Qaa (Qad (V:=I6 (((medianAdjacent ltInt d (lo+(((hi-lo)/4)*2)) ((medianAdjacent ltInt d (lo+(((hi-lo)/4)*1)) 0).2)).1:Nat):Int)) rfl (Qae ?_)))))))))
   have hq2:=QmF (d:=d) (sw:=(medianAdjacent ltInt d (lo+((hi-lo)/4)*1) (0)).2) (N:=N) (x:=lo+((hi-lo)/4)*2) (by omega) (by omega)
   refine Qab (Qaa (Qac (V:=.slice a N c) rfl (Qaa (Qac (V:=I6 ((lo+(((hi-lo)/4)*3):Nat):Int)) rfl (Qaa (QcY (vs:=[.slice a N c,I6 ((lo+(((hi-lo)/4)*3):Nat):Int),Pt b1 0]) (V:=fun _:Unit=>I6 (((medianAdjacent ltInt d (lo+(((hi-lo)/4)*3)) ((medianAdjacent ltInt d (lo+(((hi-lo)/4)*2)) ((medianAdjacent ltInt d (lo+(((hi-lo)/4)*1)) 0).2)).2)).1:Nat):Int)) (R:=blk b1 [I6 (((medianAdjacent ltInt d (lo+(((hi-lo)/4)*2)) ((medianAdjacent ltInt d (lo+(((hi-lo)/4)*1)) 0).2)).2:Nat):Int)] 3) (R':=fun _=>blk b1 [I6 (((medianAdjacent ltInt d (lo+(((hi-lo)/4)*3)) ((medianAdjacent ltInt d (lo+(((hi-lo)/4)*2)) ((medianAdjacent ltInt d (lo+(((hi-lo)/4)*1)) 0).2)).2)).2:Nat):Int)] 3) (Lo:=fun _=>[]) (F:=fun _ _=>True) QkG rfl rfl hs 0 rfl (fun S hS hlt hSM=>Qmj _ S a N c d hsz hN b1 ((medianAdjacent ltInt d (lo+(((hi-lo)/4)*2)) ((medianAdjacent ltInt d (lo+(((hi-lo)/4)*1)) 0).2)).2) (by omega) (Rd.own' hr hs) (Nat.lt_of_lt_of_le hb hs.size) (fun h=>hSM _ h hb) hS hlt (lo+(((hi-lo)/4)*3)) (by omega) (by omega)) fun _ w7 hs _=>?_))))))
   replace hs:Own w no w7 [blk b1 [I6 (((medianAdjacent ltInt d (lo+(((hi-lo)/4)*3)) ((medianAdjacent ltInt d (lo+(((hi-lo)/4)*2)) ((medianAdjacent ltInt d (lo+(((hi-lo)/4)*1)) 0).2)).2)).2:Nat):Int)] 3]:=hs
   refine Qaa (Qad (V:=I6 (((medianAdjacent ltInt d (lo+(((hi-lo)/4)*3)) ((medianAdjacent ltInt d (lo+(((hi-lo)/4)*2)) ((medianAdjacent ltInt d (lo+(((hi-lo)/4)*1)) 0).2)).2)).1:Nat):Int)) rfl (Qae ?_))
   have hq3:=QmF (d:=d) (sw:=(medianAdjacent ltInt d (lo+((hi-lo)/4)*2) ((medianAdjacent ltInt d (lo+((hi-lo)/4)*1) (0)).2)).2) (N:=N) (x:=lo+((hi-lo)/4)*3) (by omega) (by omega)
   refine Qab (Qaa (Qac (V:=.slice a N c) rfl (Qaa (Qac (V:=I6 (((medianAdjacent ltInt d (lo+(((hi-lo)/4)*1)) 0).1:Nat):Int)) rfl (Qaa (Qac (V:=I6 (((medianAdjacent ltInt d (lo+(((hi-lo)/4)*2)) ((medianAdjacent ltInt d (lo+(((hi-lo)/4)*1)) 0).2)).1:Nat):Int)) rfl (Qaa (Qac (V:=I6 (((medianAdjacent ltInt d (lo+(((hi-lo)/4)*3)) ((medianAdjacent ltInt d (lo+(((hi-lo)/4)*2)) ((medianAdjacent ltInt d (lo+(((hi-lo)/4)*1)) 0).2)).2)).1:Nat):Int)) rfl (Qaa (QcY (vs:=[.slice a N c,I6 (((medianAdjacent ltInt d (lo+(((hi-lo)/4)*1)) 0).1:Nat):Int),I6 (((medianAdjacent ltInt d (lo+(((hi-lo)/4)*2)) ((medianAdjacent ltInt d (lo+(((hi-lo)/4)*1)) 0).2)).1:Nat):Int),I6 (((medianAdjacent ltInt d (lo+(((hi-lo)/4)*3)) ((medianAdjacent ltInt d (lo+(((hi-lo)/4)*2)) ((medianAdjacent ltInt d (lo+(((hi-lo)/4)*1)) 0).2)).2)).1:Nat):Int),Pt b1 0]) (V:=fun _:Unit=>I6 (((Sort.median ltInt d ((medianAdjacent ltInt d (lo+(((hi-lo)/4)*1)) 0).1) ((medianAdjacent ltInt d (lo+(((hi-lo)/4)*2)) ((medianAdjacent ltInt d (lo+(((hi-lo)/4)*1)) 0).2)).1) ((medianAdjacent ltInt d (lo+(((hi-lo)/4)*3)) ((medianAdjacent ltInt d (lo+(((hi-lo)/4)*2)) ((medianAdjacent ltInt d (lo+(((hi-lo)/4)*1)) 0).2)).2)).1) ((medianAdjacent ltInt d (lo+(((hi-lo)/4)*3)) ((medianAdjacent ltInt d (lo+(((hi-lo)/4)*2)) ((medianAdjacent ltInt d (lo+(((hi-lo)/4)*1)) 0).2)).2)).2)).1:Nat):Int)) (R:=blk b1 [I6 (((medianAdjacent ltInt d (lo+(((hi-lo)/4)*3)) ((medianAdjacent ltInt d (lo+(((hi-lo)/4)*2)) ((medianAdjacent ltInt d (lo+(((hi-lo)/4)*1)) 0).2)).2)).2:Nat):Int)] 3) (R':=fun _=>blk b1 [I6 (((Sort.median ltInt d ((medianAdjacent ltInt d (lo+(((hi-lo)/4)*1)) 0).1) ((medianAdjacent ltInt d (lo+(((hi-lo)/4)*2)) ((medianAdjacent ltInt d (lo+(((hi-lo)/4)*1)) 0).2)).1) ((medianAdjacent ltInt d (lo+(((hi-lo)/4)*3)) ((medianAdjacent ltInt d (lo+(((hi-lo)/4)*2)) ((medianAdjacent ltInt d (lo+(((hi-lo)/4)*1)) 0).2)).2)).1) ((medianAdjacent ltInt d (lo+(((hi-lo)/4)*3)) ((medianAdjacent ltInt d (lo+(((hi-lo)/4)*2)) ((medianAdjacent ltInt d (lo+(((hi-lo)/4)*1)) 0).2)).2)).2)).2:Nat):Int)] 3) (Lo:=fun _=>[]) (F:=fun _ _=>True) QmH rfl rfl hs 0 rfl (fun S hS hlt hSM=>Ql8 _ S a N c d hsz hN b1 ((medianAdjacent ltInt d (lo+(((hi-lo)/4)*3)) ((medianAdjacent ltInt d (lo+(((hi-lo)/4)*2)) ((medianAdjacent ltInt d (lo+(((hi-lo)/4)*1)) 0).2)).2)).2) (by omega) (Rd.own' hr hs) (Nat.lt_of_lt_of_le hb hs.size) (fun h=>hSM _ h hb) hS hlt ((medianAdjacent ltInt d (lo+(((hi-lo)/4)*1)) 0).1) ((medianAdjacent ltInt d (lo+(((hi-lo)/4)*2)) ((medianAdjacent ltInt d (lo+(((hi-lo)/4)*1)) 0).2)).1) ((medianAdjacent ltInt d (lo+(((hi-lo)/4)*3)) ((medianAdjacent ltInt d (lo+(((hi-lo)/4)*2)) ((medianAdjacent ltInt d (lo+(((hi-lo)/4)*1)) 0).2)).2)).1) (by omega) (by omega) (by omega)) fun _ w8 hs _=>(Qaa (Qad (V:=I6 (((Sort.median ltInt d ((medianAdjacent ltInt d (lo+(((hi-lo)/4)*1)) 0).1) ((medianAdjacent ltInt d (lo+(((hi-lo)/4)*2)) ((medianAdjacent ltInt d (lo+(((hi-lo)/4)*1)) 0).2)).1) ((medianAdjacent ltInt d (lo+(((hi-lo)/4)*3)) ((medianAdjacent ltInt d (lo+(((hi-lo)/4)*2)) ((medianAdjacent ltInt d (lo+(((hi-lo)/4)*1)) 0).2)).2)).1) ((medianAdjacent ltInt d (lo+(((hi-lo)/4)*3)) ((medianAdjacent ltInt d (lo+(((hi-lo)/4)*2)) ((medianAdjacent ltInt d (lo+(((hi-lo)/4)*1)) 0).2)).2)).2)).1:Nat):Int)) rfl (Qae (Qag (Qab (Qaa (QaK (V:=I6 (((Sort.median ltInt d ((medianAdjacent ltInt d (lo+(((hi-lo)/4)*1)) 0).1) ((medianAdjacent ltInt d (lo+(((hi-lo)/4)*2)) ((medianAdjacent ltInt d (lo+(((hi-lo)/4)*1)) 0).2)).1) ((medianAdjacent ltInt d (lo+(((hi-lo)/4)*3)) ((medianAdjacent ltInt d (lo+(((hi-lo)/4)*2)) ((medianAdjacent ltInt d (lo+(((hi-lo)/4)*1)) 0).2)).2)).1) ((medianAdjacent ltInt d (lo+(((hi-lo)/4)*3)) ((medianAdjacent ltInt d (lo+(((hi-lo)/4)*2)) ((medianAdjacent ltInt d (lo+(((hi-lo)/4)*1)) 0).2)).2)).2)).2:Nat):Int)) Qql hs 0 rfl rfl rfl (Qae (Qak (Qag (Qab (Qaa (QaM rfl rfl (Qaa (Qad (V:=.bool (decide ((((Sort.median ltInt d ((medianAdjacent ltInt d (lo+(((hi-lo)/4)*1)) 0).1) ((medianAdjacent ltInt d (lo+(((hi-lo)/4)*2)) ((medianAdjacent ltInt d (lo+(((hi-lo)/4)*1)) 0).2)).1) ((medianAdjacent ltInt d (lo+(((hi-lo)/4)*3)) ((medianAdjacent ltInt d (lo+(((hi-lo)/4)*2)) ((medianAdjacent ltInt d (lo+(((hi-lo)/4)*1)) 0).2)).2)).1) ((medianAdjacent ltInt d (lo+(((hi-lo)/4)*3)) ((medianAdjacent ltInt d (lo+(((hi-lo)/4)*2)) ((medianAdjacent ltInt d (lo+(((hi-lo)/4)*1)) 0).2)).2)).2)).2:Nat):Int)=0))) rfl (Qae (Qal (t:=decide ((((Sort.median ltInt d ((medianAdjacent ltInt d (lo+(((hi-lo)/4)*1)) 0).1) ((medianAdjacent ltInt d (lo+(((hi-lo)/4)*2)) ((medianAdjacent ltInt d (lo+(((hi-lo)/4)*1)) 0).2)).1) ((medianAdjacent ltInt d (lo+(((hi-lo)/4)*3)) ((medianAdjacent ltInt d (lo+(((hi-lo)/4)*2)) ((medianAdjacent ltInt d (lo+(((hi-lo)/4)*1)) 0).2)).2)).1) ((medianAdjacent ltInt d (lo+(((hi-lo)/4)*3)) ((medianAdjacent ltInt d (lo+(((hi-lo)/4)*2)) ((medianAdjacent ltInt d (lo+(((hi-lo)/4)*1)) 0).2)).2)).2)).2:Nat):Int)=0)) rfl (fun c9=>?_) (fun c9=>?_))))))))))))))))))))))))))))
   ·
    replace c9:=QQ1 c9
    refine Qag (Qab (Qaa (Qac (V:=I6 (((Sort.median ltInt d ((medianAdjacent ltInt d (lo+(((hi-lo)/4)*1)) 0).1) ((medianAdjacent ltInt d (lo+(((hi-lo)/4)*2)) ((medianAdjacent ltInt d (lo+(((hi-lo)/4)*1)) 0).2)).1) ((medianAdjacent ltInt d (lo+(((hi-lo)/4)*3)) ((medianAdjacent ltInt d (lo+(((hi-lo)/4)*2)) ((medianAdjacent ltInt d (lo+(((hi-lo)/4)*1)) 0).2)).2)).1) ((medianAdjacent ltInt d (lo+(((hi-lo)/4)*3)) ((medianAdjacent ltInt d (lo+(((hi-lo)/4)*2)) ((medianAdjacent ltInt d (lo+(((hi-lo)/4)*1)) 0).2)).2)).2)).1:Nat):Int)) rfl (Qaa (Qad (V:=I6 (((Sort.median ltInt d ((medianAdjacent ltInt d (lo+(((hi-lo)/4)*1)) 0).1) ((medianAdjacent ltInt d (lo+(((hi-lo)/4)*2)) ((medianAdjacent ltInt d (lo+(((hi-lo)/4)*1)) 0).2)).1) ((medianAdjacent ltInt d (lo+(((hi-lo)/4)*3)) ((medianAdjacent ltInt d (lo+(((hi-lo)/4)*2)) ((medianAdjacent ltInt d (lo+(((hi-lo)/4)*1)) 0).2)).2)).1) ((medianAdjacent ltInt d (lo+(((hi-lo)/4)*3)) ((medianAdjacent ltInt d (lo+(((hi-lo)/4)*2)) ((medianAdjacent ltInt d (lo+(((hi-lo)/4)*1)) 0).2)).2)).2)).1:Nat):Int)) rfl (Qaa (Qad (V:=I6 1) rfl (Qae (Qas ?_)))))))))
    refine ⟨_,Qce (U:=I6 (((Sort.median ltInt d ((medianAdjacent ltInt d (lo+(((hi-lo)/4)*1)) 0).1) ((medianAdjacent ltInt d (lo+(((hi-lo)/4)*2)) ((medianAdjacent ltInt d (lo+(((hi-lo)/4)*1)) 0).2)).1) ((medianAdjacent ltInt d (lo+(((hi-lo)/4)*3)) ((medianAdjacent ltInt d (lo+(((hi-lo)/4)*2)) ((medianAdjacent ltInt d (lo+(((hi-lo)/4)*1)) 0).2)).2)).1) ((medianAdjacent ltInt d (lo+(((hi-lo)/4)*3)) ((medianAdjacent ltInt d (lo+(((hi-lo)/4)*2)) ((medianAdjacent ltInt d (lo+(((hi-lo)/4)*1)) 0).2)).2)).2)).1:Nat):Int)) (V:=I6 1) Tryz.results132 rfl rfl,?_⟩
    refine ⟨?_,hs.take 0⟩
    rw [QiP (X:=Sort.median ltInt d (medianAdjacent ltInt d (lo+((hi-lo)/4)*1) (0)).1 (medianAdjacent ltInt d (lo+((hi-lo)/4)*2) ((medianAdjacent ltInt d (lo+((hi-lo)/4)*1) (0)).2)).1 (medianAdjacent ltInt d (lo+((hi-lo)/4)*3) ((medianAdjacent ltInt d (lo+((hi-lo)/4)*2) ((medianAdjacent ltInt d (lo+((hi-lo)/4)*1) (0)).2)).2)).1 (medianAdjacent ltInt d (lo+((hi-lo)/4)*3) ((medianAdjacent ltInt d (lo+((hi-lo)/4)*2) ((medianAdjacent ltInt d (lo+((hi-lo)/4)*1) (0)).2)).2)).2) (h:=.increasing) ((if_pos (by omega)).trans (if_pos (by omega))) (if_pos (by omega))];rfl
   ·
    replace c9:=QQ2 c9
    refine Qag (Qab (Qaa (QaM rfl rfl (Qaa (Qad (V:=.bool (decide ((((Sort.median ltInt d ((medianAdjacent ltInt d (lo+(((hi-lo)/4)*1)) 0).1) ((medianAdjacent ltInt d (lo+(((hi-lo)/4)*2)) ((medianAdjacent ltInt d (lo+(((hi-lo)/4)*1)) 0).2)).1) ((medianAdjacent ltInt d (lo+(((hi-lo)/4)*3)) ((medianAdjacent ltInt d (lo+(((hi-lo)/4)*2)) ((medianAdjacent ltInt d (lo+(((hi-lo)/4)*1)) 0).2)).2)).1) ((medianAdjacent ltInt d (lo+(((hi-lo)/4)*3)) ((medianAdjacent ltInt d (lo+(((hi-lo)/4)*2)) ((medianAdjacent ltInt d (lo+(((hi-lo)/4)*1)) 0).2)).2)).2)).2:Nat):Int)=12))) rfl (Qae (Qal (t:=decide ((((Sort.median ltInt d ((medianAdjacent ltInt d (lo+(((hi-lo)/4)*1)) 0).1) ((medianAdjacent ltInt d (lo+(((hi-lo)/4)*2)) ((medianAdjacent ltInt d (lo+(((hi-lo)/4)*1)) 0).2)).1) ((medianAdjacent ltInt d (lo+(((hi-lo)/4)*3)) ((medianAdjacent ltInt d (lo+(((hi-lo)/4)*2)) ((medianAdjacent ltInt d (lo+(((hi-lo)/4)*1)) 0).2)).2)).1) ((medianAdjacent ltInt d (lo+(((hi-lo)/4)*3)) ((medianAdjacent ltInt d (lo+(((hi-lo)/4)*2)) ((medianAdjacent ltInt d (lo+(((hi-lo)/4)*1)) 0).2)).2)).2)).2:Nat):Int)=12)) rfl (fun c10=>?_) (fun c10=>?_))))))))
    ·
     replace c10:=QQ1 c10
     refine Qag (Qab (Qaa (Qac (V:=I6 (((Sort.median ltInt d ((medianAdjacent ltInt d (lo+(((hi-lo)/4)*1)) 0).1) ((medianAdjacent ltInt d (lo+(((hi-lo)/4)*2)) ((medianAdjacent ltInt d (lo+(((hi-lo)/4)*1)) 0).2)).1) ((medianAdjacent ltInt d (lo+(((hi-lo)/4)*3)) ((medianAdjacent ltInt d (lo+(((hi-lo)/4)*2)) ((medianAdjacent ltInt d (lo+(((hi-lo)/4)*1)) 0).2)).2)).1) ((medianAdjacent ltInt d (lo+(((hi-lo)/4)*3)) ((medianAdjacent ltInt d (lo+(((hi-lo)/4)*2)) ((medianAdjacent ltInt d (lo+(((hi-lo)/4)*1)) 0).2)).2)).2)).1:Nat):Int)) rfl (Qaa (Qad (V:=I6 (((Sort.median ltInt d ((medianAdjacent ltInt d (lo+(((hi-lo)/4)*1)) 0).1) ((medianAdjacent ltInt d (lo+(((hi-lo)/4)*2)) ((medianAdjacent ltInt d (lo+(((hi-lo)/4)*1)) 0).2)).1) ((medianAdjacent ltInt d (lo+(((hi-lo)/4)*3)) ((medianAdjacent ltInt d (lo+(((hi-lo)/4)*2)) ((medianAdjacent ltInt d (lo+(((hi-lo)/4)*1)) 0).2)).2)).1) ((medianAdjacent ltInt d (lo+(((hi-lo)/4)*3)) ((medianAdjacent ltInt d (lo+(((hi-lo)/4)*2)) ((medianAdjacent ltInt d (lo+(((hi-lo)/4)*1)) 0).2)).2)).2)).1:Nat):Int)) rfl (Qaa (Qad (V:=I6 2) rfl (Qae (Qas ?_)))))))))
     refine ⟨_,Qce (U:=I6 (((Sort.median ltInt d ((medianAdjacent ltInt d (lo+(((hi-lo)/4)*1)) 0).1) ((medianAdjacent ltInt d (lo+(((hi-lo)/4)*2)) ((medianAdjacent ltInt d (lo+(((hi-lo)/4)*1)) 0).2)).1) ((medianAdjacent ltInt d (lo+(((hi-lo)/4)*3)) ((medianAdjacent ltInt d (lo+(((hi-lo)/4)*2)) ((medianAdjacent ltInt d (lo+(((hi-lo)/4)*1)) 0).2)).2)).1) ((medianAdjacent ltInt d (lo+(((hi-lo)/4)*3)) ((medianAdjacent ltInt d (lo+(((hi-lo)/4)*2)) ((medianAdjacent ltInt d (lo+(((hi-lo)/4)*1)) 0).2)).2)).2)).1:Nat):Int)) (V:=I6 2) Tryz.results132 rfl rfl,?_⟩
     refine ⟨?_,hs.take 0⟩
     rw [QiP (X:=Sort.median ltInt d (medianAdjacent ltInt d (lo+((hi-lo)/4)*1) (0)).1 (medianAdjacent ltInt d (lo+((hi-lo)/4)*2) ((medianAdjacent ltInt d (lo+((hi-lo)/4)*1) (0)).2)).1 (medianAdjacent ltInt d (lo+((hi-lo)/4)*3) ((medianAdjacent ltInt d (lo+((hi-lo)/4)*2) ((medianAdjacent ltInt d (lo+((hi-lo)/4)*1) (0)).2)).2)).1 (medianAdjacent ltInt d (lo+((hi-lo)/4)*3) ((medianAdjacent ltInt d (lo+((hi-lo)/4)*2) ((medianAdjacent ltInt d (lo+((hi-lo)/4)*1) (0)).2)).2)).2) (h:=.decreasing) ((if_pos (by omega)).trans (if_pos (by omega))) ((if_neg (by omega)).trans (if_pos (by omega)))];rfl
    ·
     replace c10:=QQ2 c10
     refine Qag (Qab (Qaa (Qac (V:=I6 (((Sort.median ltInt d ((medianAdjacent ltInt d (lo+(((hi-lo)/4)*1)) 0).1) ((medianAdjacent ltInt d (lo+(((hi-lo)/4)*2)) ((medianAdjacent ltInt d (lo+(((hi-lo)/4)*1)) 0).2)).1) ((medianAdjacent ltInt d (lo+(((hi-lo)/4)*3)) ((medianAdjacent ltInt d (lo+(((hi-lo)/4)*2)) ((medianAdjacent ltInt d (lo+(((hi-lo)/4)*1)) 0).2)).2)).1) ((medianAdjacent ltInt d (lo+(((hi-lo)/4)*3)) ((medianAdjacent ltInt d (lo+(((hi-lo)/4)*2)) ((medianAdjacent ltInt d (lo+(((hi-lo)/4)*1)) 0).2)).2)).2)).1:Nat):Int)) rfl (Qaa (Qad (V:=I6 (((Sort.median ltInt d ((medianAdjacent ltInt d (lo+(((hi-lo)/4)*1)) 0).1) ((medianAdjacent ltInt d (lo+(((hi-lo)/4)*2)) ((medianAdjacent ltInt d (lo+(((hi-lo)/4)*1)) 0).2)).1) ((medianAdjacent ltInt d (lo+(((hi-lo)/4)*3)) ((medianAdjacent ltInt d (lo+(((hi-lo)/4)*2)) ((medianAdjacent ltInt d (lo+(((hi-lo)/4)*1)) 0).2)).2)).1) ((medianAdjacent ltInt d (lo+(((hi-lo)/4)*3)) ((medianAdjacent ltInt d (lo+(((hi-lo)/4)*2)) ((medianAdjacent ltInt d (lo+(((hi-lo)/4)*1)) 0).2)).2)).2)).1:Nat):Int)) rfl (Qaa (Qad (V:=I6 0) rfl (Qae (Qas ?_)))))))))
     refine ⟨_,Qce (U:=I6 (((Sort.median ltInt d ((medianAdjacent ltInt d (lo+(((hi-lo)/4)*1)) 0).1) ((medianAdjacent ltInt d (lo+(((hi-lo)/4)*2)) ((medianAdjacent ltInt d (lo+(((hi-lo)/4)*1)) 0).2)).1) ((medianAdjacent ltInt d (lo+(((hi-lo)/4)*3)) ((medianAdjacent ltInt d (lo+(((hi-lo)/4)*2)) ((medianAdjacent ltInt d (lo+(((hi-lo)/4)*1)) 0).2)).2)).1) ((medianAdjacent ltInt d (lo+(((hi-lo)/4)*3)) ((medianAdjacent ltInt d (lo+(((hi-lo)/4)*2)) ((medianAdjacent ltInt d (lo+(((hi-lo)/4)*1)) 0).2)).2)).2)).1:Nat):Int)) (V:=I6 0) Tryz.results132 rfl rfl,?_⟩
     refine ⟨?_,hs.take 0⟩
     rw [QiP (X:=Sort.median ltInt d (medianAdjacent ltInt d (lo+((hi-lo)/4)*1) (0)).1 (medianAdjacent ltInt d (lo+((hi-lo)/4)*2) ((medianAdjacent ltInt d (lo+((hi-lo)/4)*1) (0)).2)).1 (medianAdjacent ltInt d (lo+((hi-lo)/4)*3) ((medianAdjacent ltInt d (lo+((hi-lo)/4)*2) ((medianAdjacent ltInt d (lo+((hi-lo)/4)*1) (0)).2)).2)).1 (medianAdjacent ltInt d (lo+((hi-lo)/4)*3) ((medianAdjacent ltInt d (lo+((hi-lo)/4)*2) ((medianAdjacent ltInt d (lo+((hi-lo)/4)*1) (0)).2)).2)).2) (h:=.unknown) ((if_pos (by omega)).trans (if_pos (by omega))) ((if_neg (by omega)).trans (if_neg (by omega)))];rfl
  ·
   replace c4:=QQ2 c4
   refine Qan (Qab (Qaa (Qac (V:=.slice a N c) rfl (Qaa (Qac (V:=I6 ((lo+(((hi-lo)/4)*1):Nat):Int)) rfl (Qaa (Qac (V:=I6 ((lo+(((hi-lo)/4)*2):Nat):Int)) rfl (Qaa (Qac (V:=I6 ((lo+(((hi-lo)/4)*3):Nat):Int)) rfl (Qaa (QcY (vs:=[.slice a N c,I6 ((lo+(((hi-lo)/4)*1):Nat):Int),I6 ((lo+(((hi-lo)/4)*2):Nat):Int),I6 ((lo+(((hi-lo)/4)*3):Nat):Int),Pt b1 0]) (V:=fun _:Unit=>I6 (((Sort.median ltInt d (lo+(((hi-lo)/4)*1)) (lo+(((hi-lo)/4)*2)) (lo+(((hi-lo)/4)*3)) 0).1:Nat):Int)) (R:=blk b1 [I6 (0:Int)] 3) (R':=fun _=>blk b1 [I6 (((Sort.median ltInt d (lo+(((hi-lo)/4)*1)) (lo+(((hi-lo)/4)*2)) (lo+(((hi-lo)/4)*3)) 0).2:Nat):Int)] 3) (Lo:=fun _=>[]) (F:=fun _ _=>True) QmH rfl rfl hs 0 rfl (fun S hS hlt hSM=>Ql8 _ S a N c d hsz hN b1 0 (by omega) (Rd.own' hr hs) (Nat.lt_of_lt_of_le hb hs.size) (fun h=>hSM _ h hb) hS hlt (lo+(((hi-lo)/4)*1)) (lo+(((hi-lo)/4)*2)) (lo+(((hi-lo)/4)*3)) (by omega) (by omega) (by omega)) fun _ w11 hs _=>(Qaa (Qad (V:=I6 (((Sort.median ltInt d (lo+(((hi-lo)/4)*1)) (lo+(((hi-lo)/4)*2)) (lo+(((hi-lo)/4)*3)) 0).1:Nat):Int)) rfl (Qae (Qag (Qab (Qaa (QaK (V:=I6 (((Sort.median ltInt d (lo+(((hi-lo)/4)*1)) (lo+(((hi-lo)/4)*2)) (lo+(((hi-lo)/4)*3)) 0).2:Nat):Int)) Qql hs 0 rfl rfl rfl (Qae (Qak (Qag (Qab (Qaa (QaM rfl rfl (Qaa (Qad (V:=.bool (decide ((((Sort.median ltInt d (lo+(((hi-lo)/4)*1)) (lo+(((hi-lo)/4)*2)) (lo+(((hi-lo)/4)*3)) 0).2:Nat):Int)=0))) rfl (Qae (Qal (t:=decide ((((Sort.median ltInt d (lo+(((hi-lo)/4)*1)) (lo+(((hi-lo)/4)*2)) (lo+(((hi-lo)/4)*3)) 0).2:Nat):Int)=0)) rfl (fun c12=>?_) (fun c12=>?_)))))))))))))))))))))))))))))
   ·
    replace c12:=QQ1 c12
    refine Qag (Qab (Qaa (Qac (V:=I6 (((Sort.median ltInt d (lo+(((hi-lo)/4)*1)) (lo+(((hi-lo)/4)*2)) (lo+(((hi-lo)/4)*3)) 0).1:Nat):Int)) rfl (Qaa (Qad (V:=I6 (((Sort.median ltInt d (lo+(((hi-lo)/4)*1)) (lo+(((hi-lo)/4)*2)) (lo+(((hi-lo)/4)*3)) 0).1:Nat):Int)) rfl (Qaa (Qad (V:=I6 1) rfl (Qae (Qas ?_)))))))))
    refine ⟨_,Qce (U:=I6 (((Sort.median ltInt d (lo+(((hi-lo)/4)*1)) (lo+(((hi-lo)/4)*2)) (lo+(((hi-lo)/4)*3)) 0).1:Nat):Int)) (V:=I6 1) Tryz.results132 rfl rfl,?_⟩
    refine ⟨?_,hs.take 0⟩
    rw [QiP (X:=Sort.median ltInt d (lo+((hi-lo)/4)*1) (lo+((hi-lo)/4)*2) (lo+((hi-lo)/4)*3) 0) (h:=.increasing) ((if_pos (by omega)).trans (if_neg (by omega))) (if_pos (by omega))];rfl
   ·
    replace c12:=QQ2 c12
    refine Qag (Qab (Qaa (QaM rfl rfl (Qaa (Qad (V:=.bool (decide ((((Sort.median ltInt d (lo+(((hi-lo)/4)*1)) (lo+(((hi-lo)/4)*2)) (lo+(((hi-lo)/4)*3)) 0).2:Nat):Int)=12))) rfl (Qae (Qal (t:=decide ((((Sort.median ltInt d (lo+(((hi-lo)/4)*1)) (lo+(((hi-lo)/4)*2)) (lo+(((hi-lo)/4)*3)) 0).2:Nat):Int)=12)) rfl (fun c13=>?_) (fun c13=>?_))))))))
    ·
     replace c13:=QQ1 c13
     refine Qag (Qab (Qaa (Qac (V:=I6 (((Sort.median ltInt d (lo+(((hi-lo)/4)*1)) (lo+(((hi-lo)/4)*2)) (lo+(((hi-lo)/4)*3)) 0).1:Nat):Int)) rfl (Qaa (Qad (V:=I6 (((Sort.median ltInt d (lo+(((hi-lo)/4)*1)) (lo+(((hi-lo)/4)*2)) (lo+(((hi-lo)/4)*3)) 0).1:Nat):Int)) rfl (Qaa (Qad (V:=I6 2) rfl (Qae (Qas ?_)))))))))
     refine ⟨_,Qce (U:=I6 (((Sort.median ltInt d (lo+(((hi-lo)/4)*1)) (lo+(((hi-lo)/4)*2)) (lo+(((hi-lo)/4)*3)) 0).1:Nat):Int)) (V:=I6 2) Tryz.results132 rfl rfl,?_⟩
     refine ⟨?_,hs.take 0⟩
     rw [QiP (X:=Sort.median ltInt d (lo+((hi-lo)/4)*1) (lo+((hi-lo)/4)*2) (lo+((hi-lo)/4)*3) 0) (h:=.decreasing) ((if_pos (by omega)).trans (if_neg (by omega))) ((if_neg (by omega)).trans (if_pos (by omega)))];rfl
    ·
     replace c13:=QQ2 c13
     refine Qag (Qab (Qaa (Qac (V:=I6 (((Sort.median ltInt d (lo+(((hi-lo)/4)*1)) (lo+(((hi-lo)/4)*2)) (lo+(((hi-lo)/4)*3)) 0).1:Nat):Int)) rfl (Qaa (Qad (V:=I6 (((Sort.median ltInt d (lo+(((hi-lo)/4)*1)) (lo+(((hi-lo)/4)*2)) (lo+(((hi-lo)/4)*3)) 0).1:Nat):Int)) rfl (Qaa (Qad (V:=I6 0) rfl (Qae (Qas ?_)))))))))
     refine ⟨_,Qce (U:=I6 (((Sort.median ltInt d (lo+(((hi-lo)/4)*1)) (lo+(((hi-lo)/4)*2)) (lo+(((hi-lo)/4)*3)) 0).1:Nat):Int)) (V:=I6 0) Tryz.results132 rfl rfl,?_⟩
     refine ⟨?_,hs.take 0⟩
     rw [QiP (X:=Sort.median ltInt d (lo+((hi-lo)/4)*1) (lo+((hi-lo)/4)*2) (lo+((hi-lo)/4)*3) 0) (h:=.unknown) ((if_pos (by omega)).trans (if_neg (by omega))) ((if_neg (by omega)).trans (if_neg (by omega)))];rfl
 ·
  replace c3:=QQ2 c3
  refine Qan (Qag (Qab (Qaa (QaK (V:=I6 0) Qql hs 0 rfl rfl rfl (Qae (Qak (Qag (Qab (Qaa (QaM rfl rfl (Qaa (Qad (V:=.bool (decide ((0:Int)=0))) rfl (Qae (Qal (t:=decide ((0:Int)=0)) rfl (fun c14=>?_) (fun c14=>?_)))))))))))))))
  ·
   replace c14:=QQ1 c14
   refine Qag (Qab (Qaa (Qac (V:=I6 ((lo+(((hi-lo)/4)*2):Nat):Int)) rfl (Qaa (Qad (V:=I6 ((lo+(((hi-lo)/4)*2):Nat):Int)) rfl (Qaa (Qad (V:=I6 1) rfl (Qae (Qas ?_)))))))))
   refine ⟨_,Qce (U:=I6 ((lo+(((hi-lo)/4)*2):Nat):Int)) (V:=I6 1) Tryz.results132 rfl rfl,?_⟩
   refine ⟨?_,hs.take 0⟩
   rw [QiP (X:=(lo+((hi-lo)/4)*2,0)) (h:=.increasing) (if_neg (by omega)) (if_pos rfl)];rfl
  ·
   replace c14:=QQ2 c14
   refine Qag (Qab (Qaa (QaM rfl rfl (Qaa (Qad (V:=.bool (decide ((0:Int)=12))) rfl (Qae (Qal (t:=decide ((0:Int)=12)) rfl (fun c15=>?_) (fun c15=>?_))))))))
   ·
    replace c15:=QQ1 c15
    refine Qag (Qab (Qaa (Qac (V:=I6 ((lo+(((hi-lo)/4)*2):Nat):Int)) rfl (Qaa (Qad (V:=I6 ((lo+(((hi-lo)/4)*2):Nat):Int)) rfl (Qaa (Qad (V:=I6 2) rfl (Qae (Qas ?_)))))))))
    refine ⟨_,Qce (U:=I6 ((lo+(((hi-lo)/4)*2):Nat):Int)) (V:=I6 2) Tryz.results132 rfl rfl,?_⟩
    exfalso;omega
   ·
    replace c15:=QQ2 c15
    refine Qag (Qab (Qaa (Qac (V:=I6 ((lo+(((hi-lo)/4)*2):Nat):Int)) rfl (Qaa (Qad (V:=I6 ((lo+(((hi-lo)/4)*2):Nat):Int)) rfl (Qaa (Qad (V:=I6 0) rfl (Qae (Qas ?_)))))))))
    refine ⟨_,Qce (U:=I6 ((lo+(((hi-lo)/4)*2):Nat):Int)) (V:=I6 0) Tryz.results132 rfl rfl,?_⟩
    exfalso;omega
end Tt
end Go.Proofs
namespace Go.Proofs
open Go Go.Vx Go.RowKit
open Go.Sort (ltInt medianAdjacent order2 partition)
namespace Tt
section
variable {lo hi i s:Nat} {d:Array Int}
theorem Qrj (h:(i:Int)<(hi:Int)) (h2:¬d[i]!<d[i-1]!):Sort.scanSorted ltInt d hi i=Sort.scanSorted ltInt d hi (i+1):=by
 rw [Sort.scanSorted,if_pos]
 simp only [Bool.and_eq_true,decide_eq_true_eq,Bool.not_eq_true',ltInt,decide_eq_false_iff_not];exact ⟨by omega,h2⟩
theorem Qs2 (h:(decide ((i:Int)<(hi:Int))&&!decide (d[i]!<d[i-1]!))=false):Sort.scanSorted ltInt d hi i=i:=by
 rw [Sort.scanSorted,if_neg]
 intro h2
 simp only [Bool.and_eq_true,decide_eq_true_eq,Bool.not_eq_true',ltInt,decide_eq_false_iff_not] at h2
 simp only [Bool.and_eq_false_iff,decide_eq_false_iff_not,Bool.not_eq_false',decide_eq_true_eq] at h
 rcases h with h|h
 ·exact h (by omega)
 ·exact h2.2 h
theorem Qrk (h:1≤(i:Int)) (h2:d[i]!<d[i-1]!):Sort.shiftDown ltInt i d=Sort.shiftDown ltInt (i-1) (Sort.swp d i (i-1)):=by
 obtain ⟨j,rfl⟩:∃ j,i=j+1:=⟨i-1,by omega⟩
 rw [Nat.add_sub_cancel] at *
 rw [Sort.shiftDown,if_neg (by simp [ltInt,h2])]
theorem Qtp (h2:¬d[i]!<d[i-1]!):Sort.shiftDown ltInt i d=d:=by
 cases i with
 | zero=>rfl
 | succ j=>rw [Nat.add_sub_cancel] at h2;rw [Sort.shiftDown,if_pos (by simpa [ltInt] using h2)]
theorem QuL (h:¬1≤(i:Int)):Sort.shiftDown ltInt i d=d:=by
 have:i=0:=by omega
 subst this;rfl
theorem QrI (h:(i:Int)<(hi:Int)) (h2:d[i]!<d[i-1]!):Sort.shiftUp ltInt hi i d=Sort.shiftUp ltInt hi (i+1) (Sort.swp d i (i-1)):=by
 rw [Sort.shiftUp,if_pos (by omega),if_neg (by simp [ltInt,h2])]
theorem Qtf (h:(i:Int)<(hi:Int)) (h2:¬d[i]!<d[i-1]!):Sort.shiftUp ltInt hi i d=d:=by
 rw [Sort.shiftUp,if_pos (by omega),if_pos (by simpa [ltInt] using h2)]
theorem QuO (h:¬(i:Int)<(hi:Int)):Sort.shiftUp ltInt hi i d=d:=by rw [Sort.shiftUp,if_neg (by omega)]
def dnI (lo i:Nat) (d:Array Int):Array Int:=if i-lo ≥ 2 then Sort.shiftDown ltInt (i-1) d else d
def upI (hi i:Nat) (d:Array Int):Array Int:=if hi-i ≥ 2 then Sort.shiftUp ltInt hi (i+1) d else d
theorem Qin {q i2:Nat} (hq:q<5) (h2:i2=Sort.scanSorted ltInt d hi i):Sort.partialIns ltInt lo hi (5-q) i d=if i2=hi then (d,true) else if hi-lo<50 then (d,false) else Sort.partialIns ltInt lo hi (5-(q+1)) i2 (upI hi i2 (dnI lo i2 (Sort.swp d i2 (i2-1)))):=by
 obtain ⟨s,hs⟩:∃ s,5-q=s+1:=⟨5-q-1,by omega⟩
 rw [hs,show 5-(q+1)=s by omega,h2]
 rfl
end
theorem Qqt (w:World) (S:Nat→Prop) (a:Option Addr) (N c:Nat) (d:Array Int) (hsz:d.size=N) (hN:N≤2305843009213693951) (lo hi:Nat) (h1:lo<hi) (h2:hi≤N) (hR:(row (.slice a N c) (d.toList.map (ic .u16)) 31 1).holds w S) (hlt:∀ x,S x→x<w.heap.size):Calls Tryz.prog 134 #[.slice a N c,.int .i64 (lo:Int),.int .i64 (hi:Int)] w (fun e w'=>∃ _u:Unit,e = .returned (.bool (Sort.partialInsertionSort ltInt d lo hi).2)∧Own w S w' [row (.slice a N c) (((Sort.partialInsertionSort ltInt d lo hi).1).toList.map (ic .u16)) 31 1]∧(Sort.partialInsertionSort ltInt d lo hi).1.size=N):=by
 refine Qai (n:=133) Tryz.func134 rfl Tryz.ntmps134 rfl ?_
 have hs:=Own.lent hR hlt
 refine Qag (Qab (Qaa (Qad (V:=.bool false) rfl (Qae (Qag (Qab (Qaa (Qac (V:=I6 (lo:Int)) rfl (Qaa (Qav (a:=(lo:Int)) (b:=1) (c:=((lo+1:Nat):Int)) rfl rfl (Qaj (by omega) (by omega)) (Qaa (Qad (V:=I6 ((lo+1:Nat):Int)) rfl (Qae (Qag (Qag (Qab (Qaa (Qad (V:=I6 0) rfl (Qae (Qak (Qax (fun ρ μ ρ' w'=>∃ (ρo:Env) (q:Nat) (i:Nat) (d1:Array Int),ρ'=upd (upd (mix [6,7,8,9,10,13,14,15,16,17,18,19,20,21,22,23,24,25,26,27,28,29,30,31,32,33,34,35,36,37,38,39,40,41,42,43,44,45,46,47,48,49,50,51,52,53,54,55,56,57,58,59,60,61,62,63,64,65,66,67,68,69,70,71,72,73,74,75,76,77,78,79,80,81,82,83,84,85,86,87,88,89,90,91,92,93,94,95,96,97,98,99,100,101,102,103,104,105,106,107,108,109,110,111,112,113,114,115,116,117,118,119,120,121,122,123,124,125,126,127,128,129,130,131,132] ρo ρ) 8 (I6 (q:Int))) 7 (I6 (i:Int))∧(q≤5)∧(lo+1≤i)∧(i≤hi)∧(d1.size=N)∧(Sort.partialIns ltInt lo hi (5-q) i d1=Sort.partialInsertionSort ltInt d lo hi)∧μ=5-q∧Own w S w' [row (.slice a N c) (d1.toList.map (ic .u16)) 31 1]) ?_ ?_)))))))))))))))))))))
 ·exact ⟨_,_,0,lo+1,d,Qah (Qah (Qam (ds:=[6,7,8,9,10,13,14,15,16,17,18,19,20,21,22,23,24,25,26,27,28,29,30,31,32,33,34,35,36,37,38,39,40,41,42,43,44,45,46,47,48,49,50,51,52,53,54,55,56,57,58,59,60,61,62,63,64,65,66,67,68,69,70,71,72,73,74,75,76,77,78,79,80,81,82,83,84,85,86,87,88,89,90,91,92,93,94,95,96,97,98,99,100,101,102,103,104,105,106,107,108,109,110,111,112,113,114,115,116,117,118,119,120,121,122,123,124,125,126,127,128,129,130,131,132]) (Agr.refl _ _)) rfl) rfl,(by omega),(by omega),(by omega),hsz,rfl,rfl,hs⟩
 ·rintro μ ρ' w1 ⟨ρo,q,i,d1,rfl,hq,hi0,hi1,hz1,hev,rfl,hs⟩
  refine Qag (Qag (Qab (Qaa (Qac (V:=I6 (q:Int)) rfl (Qaa (QaP rfl rfl (Qae (Qal (t:=decide ((q:Int)<5)) rfl (fun c2=>?_) (fun c2=>?_)))))))))
  ·
   replace c2:=QQ1 c2
   refine Qan (Qag (Qak (Qag (Qak (Qax (fun ρ μ ρ' w'=>∃ (ρo:Env) (i2:Nat),ρ'=upd (mix [7,17,18,19,20,21,22,23,24,25,26,27,28,29,30,31,32,33,34] ρo ρ) 7 (I6 (i2:Int))∧(i≤i2)∧(i2≤hi)∧(Sort.scanSorted ltInt d1 hi i2=Sort.scanSorted ltInt d1 hi i)∧μ=hi-i2∧Own w S w' [row (.slice a N c) (d1.toList.map (ic .u16)) 31 1]) ?_ ?_)))))
   ·exact ⟨_,_,i,Qah (Qam (ds:=[7,17,18,19,20,21,22,23,24,25,26,27,28,29,30,31,32,33,34]) (Agr.refl _ _)) rfl,(Nat.le_refl _),hi1,rfl,rfl,hs⟩
   ·rintro μ ρ' w3 ⟨ρo,i2,rfl,hi2a,hi2b,hsc,rfl,hs⟩
    refine Qag (Qag (QaC HM [some 17,some 18,some 19,some 20,some 21,some 22,some 23,some 24,some 25,some 26,some 27,some 28,some 29,some 30,some 31,some 32] [] [0,0,3,7,15,15,63,127,15,15,527,1807,3855,8191,16383,32767] [pv (I6 (i2:Int)),pv (I6 (hi:Int)),pv (.bool (decide ((i2:Int)<(hi:Int)))),pv (.bool (decide ((i2:Int)<(hi:Int)))),pg ((decide ((i2:Int)<(hi:Int))) == true) (.slice a N c),pg ((decide ((i2:Int)<(hi:Int))) == true) (I6 (i2:Int)),pg ((decide ((i2:Int)<(hi:Int))) == true) (.pointer (some ⟨bkS (.slice a N c),ofS (.slice a N c)+(i2:Int).toNat*1,none⟩)),pg ((decide ((i2:Int)<(hi:Int))) == true) (I7 (d1[i2]!)),pg ((decide ((i2:Int)<(hi:Int))) == true) (.slice a N c),pg ((decide ((i2:Int)<(hi:Int))) == true) (I6 (i2:Int)),pg ((decide ((i2:Int)<(hi:Int))) == true) (I6 ((i2-1:Nat):Int)),pg ((decide ((i2:Int)<(hi:Int))) == true) (.pointer (some ⟨bkS (.slice a N c),ofS (.slice a N c)+((i2-1:Nat):Int).toNat*1,none⟩)),pg ((decide ((i2:Int)<(hi:Int))) == true) (I7 (d1[i2-1]!)),pg ((decide ((i2:Int)<(hi:Int))) == true) (.bool (decide (d1[i2]!<d1[i2-1]!))),pg ((decide ((i2:Int)<(hi:Int))) == true) (.bool (!decide (d1[i2]!<d1[i2-1]!))),pv (.bool ((decide ((i2:Int)<(hi:Int)))&&(!decide (d1[i2]!<d1[i2-1]!))))] (fun _ _=>_) [15] (by kernel_rfl) hs ⟨?_,?_,?_,?_,?_,?_,?_,?_,?_,?_,?_,?_,?_,?_,?_,?_,trivial⟩ ?_))
    ·exact ob [] [] rfl rfl fun D ρ w hs=>Qac (V:=I6 (i2:Int)) rfl ⟨rfl,hs⟩
    ·exact ob [] [] rfl rfl fun D ρ w hs=>Qac (V:=I6 (hi:Int)) rfl ⟨rfl,hs⟩
    ·exact ob [0,1] [] rfl rfl fun D ρ w hs=>QaP rfl rfl ⟨rfl,hs⟩
    ·exact ob [2] [] rfl rfl fun D ρ w hs=>Qac (V:=.bool (decide ((i2:Int)<(hi:Int)))) rfl ⟨rfl,hs⟩
    ·refine obg [3] [] (decide ((i2:Int)<(hi:Int))) rfl (fun _=>rfl) rfl (fun _ _ _ _ h=>h) fun D ρ w hG hs=>?_
     have hgd:=QQ1 (eq_of_beq hG)
     exact Qac (V:=.slice a N c) rfl ⟨rfl,hs⟩
    ·refine obg [3] [] (decide ((i2:Int)<(hi:Int))) rfl (fun _=>rfl) rfl (fun _ _ _ _ h=>h) fun D ρ w hG hs=>?_
     have hgd:=QQ1 (eq_of_beq hG)
     exact Qac (V:=.int .i64 (i2:Int)) rfl ⟨rfl,hs⟩
    ·refine obgy [3,4,5] [] [4,5] (decide ((i2:Int)<(hi:Int))) rfl (fun _=>rfl) rfl (fun _ _ _ _ h=>h) (fun hG=>⟨hG,hG,trivial⟩) fun D ρ w hG hs=>?_
     have hgd:=QQ1 (eq_of_beq hG)
     exact Qat QaI Qap.1 (hs.rd 0 rfl) rfl rfl (by omega) (by simp only [QQ6,QQ9,QQ5,Go.Sort.size_swp];omega) ⟨rfl,hs⟩
    ·refine obgy [3,6] [] [6] (decide ((i2:Int)<(hi:Int))) rfl (fun _=>rfl) rfl (fun _ _ _ _ h=>h) (fun hG=>⟨hG,trivial⟩) fun D ρ w hG hs=>?_
     have hgd:=QQ1 (eq_of_beq hG)
     exact QaQ (j:=0) (V:=.int .u16 (d1[i2]!)) i2 Qap (hs.rd 0 rfl) (Qbk (by omega)) rfl rfl (by omega) ⟨rfl,hs⟩
    ·refine obg [3] [] (decide ((i2:Int)<(hi:Int))) rfl (fun _=>rfl) rfl (fun _ _ _ _ h=>h) fun D ρ w hG hs=>?_
     have hgd:=QQ1 (eq_of_beq hG)
     exact Qac (V:=.slice a N c) rfl ⟨rfl,hs⟩
    ·refine obg [3] [] (decide ((i2:Int)<(hi:Int))) rfl (fun _=>rfl) rfl (fun _ _ _ _ h=>h) fun D ρ w hG hs=>?_
     have hgd:=QQ1 (eq_of_beq hG)
     exact Qac (V:=.int .i64 (i2:Int)) rfl ⟨rfl,hs⟩
    ·refine obgy [3,9] [] [9] (decide ((i2:Int)<(hi:Int))) rfl (fun _=>rfl) rfl (fun _ _ _ _ h=>h) (fun hG=>⟨hG,trivial⟩) fun D ρ w hG hs=>?_
     have hgd:=QQ1 (eq_of_beq hG)
     exact Qa4 (a:=(i2:Int)) (b:=1) (c:=((i2-1:Nat):Int)) rfl rfl (Qaj (by omega) (by omega)) ⟨rfl,hs⟩
    ·refine obgy [3,8,10] [] [8,10] (decide ((i2:Int)<(hi:Int))) rfl (fun _=>rfl) rfl (fun _ _ _ _ h=>h) (fun hG=>⟨hG,hG,trivial⟩) fun D ρ w hG hs=>?_
     have hgd:=QQ1 (eq_of_beq hG)
     exact Qat QaI Qap.1 (hs.rd 0 rfl) rfl rfl (by omega) (by simp only [QQ6,QQ9,QQ5,Go.Sort.size_swp];omega) ⟨rfl,hs⟩
    ·refine obgy [3,11] [] [11] (decide ((i2:Int)<(hi:Int))) rfl (fun _=>rfl) rfl (fun _ _ _ _ h=>h) (fun hG=>⟨hG,trivial⟩) fun D ρ w hG hs=>?_
     have hgd:=QQ1 (eq_of_beq hG)
     exact QaQ (j:=0) (V:=.int .u16 (d1[i2-1]!)) (i2-1) Qap (hs.rd 0 rfl) (Qbk (by omega)) rfl rfl (by omega) ⟨rfl,hs⟩
    ·refine obgy [3,7,12] [] [7,12] (decide ((i2:Int)<(hi:Int))) rfl (fun _=>rfl) rfl (fun _ _ _ _ h=>h) (fun hG=>⟨hG,hG,trivial⟩) fun D ρ w hG hs=>?_
     have hgd:=QQ1 (eq_of_beq hG)
     exact Qar (vs:=[.int .u16 (d1[i2]!),.int .u16 (d1[i2-1]!)]) (V:=.bool (decide (d1[i2]!<d1[i2-1]!))) Qc3 rfl rfl (Qcl _ (d1[i2]!) (d1[i2-1]!)) hs fun _ hs=>⟨rfl,hs⟩
    ·refine obgy [3,13] [] [13] (decide ((i2:Int)<(hi:Int))) rfl (fun _=>rfl) rfl (fun _ _ _ _ h=>h) (fun hG=>⟨hG,trivial⟩) fun D ρ w hG hs=>?_
     have hgd:=QQ1 (eq_of_beq hG)
     exact Qbw rfl ⟨rfl,hs⟩
    ·exact ob [3,14] [] rfl rfl fun D ρ w hs=>Qa3 (h':=!decide (d1[i2]!<d1[i2-1]!)) rfl rfl rfl ⟨rfl,hs⟩
    rintro ρ1 w5 ρ2 hρ hs
    replace hρ:ρ2=upd (mix [17,18,19,20,21,22,23,24,25,26,27,28,29,30,31,32] ρ1 _) 32 (.bool ((decide ((i2:Int)<(hi:Int)))&&(!decide (d1[i2]!<d1[i2-1]!)))):=hρ
    subst hρ
    refine Qal (t:=(decide ((i2:Int)<(hi:Int)))&&(!decide (d1[i2]!<d1[i2-1]!))) rfl (fun c6=>?_) (fun c6=>?_)
    ·
     have c6r:=Qcd c6
     replace c6:=QbQ c6
     replace c6:=QQ1 c6
     replace c6r:=QbL c6r
     replace c6r:=QQ2 c6r
     refine Qan (Qak (Qab (Qaa (Qac (V:=I6 (i2:Int)) rfl (Qaa (Qav (a:=(i2:Int)) (b:=1) (c:=((i2+1:Nat):Int)) rfl rfl (Qaj (by omega) (by omega)) (Qaa (Qad (V:=I6 ((i2+1:Nat):Int)) rfl (Qae ?_)))))))))
     refine ⟨_,?_,_,i2+1,Qah (Qam (ds:=[7,17,18,19,20,21,22,23,24,25,26,27,28,29,30,31,32,33,34]) (by repeat (first|exact Agr.refl _ _|refine Agr.upd ?_ rfl|refine Agr.mix ?_ rfl))) rfl,(by omega),(by omega),(by rw [← hsc,Qrj c6 c6r]),rfl,hs.take 1⟩
     omega
    ·
     refine Qaz (Qag (Qag ?_))
     have hi2e:i2=Sort.scanSorted ltInt d1 hi i:=by rw [← hsc,Qs2 c6]
     refine Qab (Qaa (Qac (V:=I6 (i2:Int)) rfl (Qaa (Qac (V:=I6 (hi:Int)) rfl (Qaa (QaM rfl rfl (Qae (Qal (t:=decide ((i2:Int)=(hi:Int))) rfl (fun c7=>?_) (fun c7=>?_)))))))))
     ·
      replace c7:=QQ1 c7
      refine Qag (Qab (Qaa (Qad (V:=.bool true) rfl (Qae (Qas ?_)))))
      refine ⟨_,Qao (V:=.bool true) Tryz.results134 rfl,?_⟩
      have hX:Sort.partialInsertionSort ltInt d lo hi=(d1,true):=by rw [← hev,Qin (q:=q) (by omega) hi2e,if_pos (by omega)]
      rw [hX]
      exact ⟨(),rfl,hs.take 1,hz1⟩
     ·
      replace c7:=QQ2 c7
      refine Qan (Qag (Qag (Qab (Qaa (Qac (V:=I6 (hi:Int)) rfl (Qaa (Qac (V:=I6 (lo:Int)) rfl (Qaa (Qa4 (a:=(hi:Int)) (b:=(lo:Int)) (c:=((hi-lo:Nat):Int)) rfl rfl (Qaj (by omega) (by omega)) (Qaa (QaP rfl rfl (Qae (Qal (t:=decide (((hi-lo:Nat):Int)<50)) rfl (fun c8=>?_) (fun c8=>?_))))))))))))))
      ·
       replace c8:=QQ1 c8
       refine Qag (Qab (Qaa (Qad (V:=.bool false) rfl (Qae (Qas ?_)))))
       refine ⟨_,Qao (V:=.bool false) Tryz.results134 rfl,?_⟩
       have hX:Sort.partialInsertionSort ltInt d lo hi=(d1,false):=by rw [← hev,Qin (q:=q) (by omega) hi2e,if_neg (by omega),if_pos (by omega)]
       rw [hX]
       exact ⟨(),rfl,hs.take 1,hz1⟩
      ·
       replace c8:=QQ2 c8
       refine Qan (Qag (QaC HM [some 42,some 43,some 44,some 45,some 46,some 47,some 48,some 49,some 50,some 51,some 52,some 53,some 54,some 55,some 56,none,some 57,none] [] [0,0,0,0,8,0,0,64,224,480,0,0,3072,7168,16355,32739,65535,131071] [pv (.slice a N c),pv (I6 (i2:Int)),pv (.slice a N c),pv (I6 (i2:Int)),pv (I6 ((i2-1:Nat):Int)),pv (.slice a N c),pv (I6 (i2:Int)),pv (I6 ((i2-1:Nat):Int)),pv (.pointer (some ⟨bkS (.slice a N c),ofS (.slice a N c)+((i2-1:Nat):Int).toNat*1,none⟩)),pv (I7 (d1[i2-1]!)),pv (.slice a N c),pv (I6 (i2:Int)),pv (.pointer (some ⟨bkS (.slice a N c),ofS (.slice a N c)+(i2:Int).toNat*1,none⟩)),pv (I7 (d1[i2]!)),pv (.pointer (some ⟨bkS (.slice a N c),ofS (.slice a N c)+(i2:Int).toNat*1,none⟩)),pn,pv (.pointer (some ⟨bkS (.slice a N c),ofS (.slice a N c)+((i2-1:Nat):Int).toNat*1,none⟩)),pn] (fun D ρ=>[cond (D 17) (row (.slice a N c) ((((d1.setIfInBounds i2 (d1[i2-1]!)).setIfInBounds (i2-1) (d1[i2]!)).toList).map (ic .u16)) 31 1) (cond (D 15) (row (.slice a N c) (((d1.setIfInBounds i2 (d1[i2-1]!)).toList).map (ic .u16)) 31 1) (row (.slice a N c) (d1.toList.map (ic .u16)) 31 1))]) [] (by kernel_rfl) hs ⟨?_,?_,?_,?_,?_,?_,?_,?_,?_,?_,?_,?_,?_,?_,?_,?_,?_,?_,trivial⟩ ?_))
       ·exact ob [] [] rfl rfl fun D ρ w hs=>Qac (V:=.slice a N c) rfl ⟨rfl,hs⟩
       ·exact ob [] [] rfl rfl fun D ρ w hs=>Qac (V:=I6 (i2:Int)) rfl ⟨rfl,hs⟩
       ·exact ob [] [] rfl rfl fun D ρ w hs=>Qac (V:=.slice a N c) rfl ⟨rfl,hs⟩
       ·exact ob [] [] rfl rfl fun D ρ w hs=>Qac (V:=I6 (i2:Int)) rfl ⟨rfl,hs⟩
       ·exact ob [3] [] rfl rfl fun D ρ w hs=>Qa4 (a:=(i2:Int)) (b:=1) (c:=((i2-1:Nat):Int)) rfl rfl (Qaj (by omega) (by omega)) ⟨rfl,hs⟩
       ·exact ob [] [] rfl rfl fun D ρ w hs=>Qac (V:=.slice a N c) rfl ⟨rfl,hs⟩
       ·exact ob [] [] rfl rfl fun D ρ w hs=>Qac (V:=I6 (i2:Int)) rfl ⟨rfl,hs⟩
       ·exact ob [6] [] rfl rfl fun D ρ w hs=>Qa4 (a:=(i2:Int)) (b:=1) (c:=((i2-1:Nat):Int)) rfl rfl (Qaj (by omega) (by omega)) ⟨rfl,hs⟩
       ·exact ob [5,7] [15,17] rfl rfl fun D ρ w hs=>Qat QaI Qap.1 (hs.rd 0 rfl) rfl rfl (by omega) (by simp only [QQ6,QQ9,QQ5,Go.Sort.size_swp];omega) ⟨rfl,hs⟩
       ·exact ob [8] [15,17] rfl rfl fun D ρ w hs=>QaQ (j:=0) (V:=I7 (d1[i2-1]!)) (i2-1) Qap (hs.rd 0 rfl) (Qbk (by omega)) rfl rfl (by omega) ⟨rfl,hs⟩
       ·exact ob [] [] rfl rfl fun D ρ w hs=>Qac (V:=.slice a N c) rfl ⟨rfl,hs⟩
       ·exact ob [] [] rfl rfl fun D ρ w hs=>Qac (V:=I6 (i2:Int)) rfl ⟨rfl,hs⟩
       ·exact ob [10,11] [15,17] rfl rfl fun D ρ w hs=>Qat QaI Qap.1 (hs.rd 0 rfl) rfl rfl (by omega) (by simp only [QQ6,QQ9,QQ5,Go.Sort.size_swp];omega) ⟨rfl,hs⟩
       ·exact ob [12] [15,17] rfl rfl fun D ρ w hs=>QaQ (j:=0) (V:=I7 (d1[i2]!)) i2 Qap (hs.rd 0 rfl) (Qbk (by omega)) rfl rfl (by omega) ⟨rfl,hs⟩
       ·exact ob [0,1] [15,17] rfl rfl fun D ρ w hs=>Qat QaI Qap.1 (hs.rd 0 rfl) rfl rfl (by omega) (by simp only [QQ6,QQ9,QQ5,Go.Sort.size_swp];omega) ⟨rfl,hs⟩
       ·exact ob [9,14] [17] rfl rfl fun D ρ w hs=>Qcf (z:=d1[i2-1]!) i2 Qap hs 0 rfl rfl (by omega) (by first|omega|(simp only [QQ5,Go.Sort.size_swp];omega)) rfl rfl rfl fun _ hs=>⟨trivial,hs⟩
       ·exact ob [2,4,15] [17] rfl rfl fun D ρ w hs=>Qat QaI Qap.1 (hs.rd 0 rfl) rfl rfl (by omega) (by simp only [QQ6,QQ9,QQ5,Go.Sort.size_swp];omega) ⟨rfl,hs⟩
       ·exact ob [13,15,16] [] rfl rfl fun D ρ w hs=>Qcf (z:=d1[i2]!) (i2-1) Qap hs 0 rfl rfl (by omega) (by first|omega|(simp only [QQ5,Go.Sort.size_swp];omega)) rfl rfl rfl fun _ hs=>⟨trivial,hs⟩
       rintro ρ1 w11 ρ2 hρ hs
       replace hρ:ρ2=mix [42,43,44,45,46,47,48,49,50,51,52,53,54,55,56,57] ρ1 _:=hρ
       replace hs:Own w S w11 [row (.slice a N c) ((((d1.setIfInBounds i2 (d1[i2-1]!)).setIfInBounds (i2-1) (d1[i2]!)).toList).map (ic .u16)) 31 1]:=hs
       subst hρ
       refine Qag (Qag (Qab (Qaa (Qac (V:=I6 (i2:Int)) rfl (Qaa (Qac (V:=I6 (lo:Int)) rfl (Qaa (Qa4 (a:=(i2:Int)) (b:=(lo:Int)) (c:=((i2-lo:Nat):Int)) rfl rfl (Qaj (by omega) (by omega)) (Qaa (QcN rfl rfl (Qae (Qfx (fun ρ ρ' w'=>∃ (ρo:Env) (d3:Array Int),ρ'=mix [9,62,63,64,65,66,67,68,69,70,71,72,73,74,75,76,77,78,79,80,81,82,83,84,85,86,87,88,89,90,91,92,93,94] ρo ρ∧(d3=dnI lo i2 (Sort.swp d1 i2 (i2-1)))∧(d3.size=N)∧Own w S w' [row (.slice a N c) (d3.toList.map (ic .u16)) 31 1]) ?_ ?_))))))))))))
       ·
        refine Qal (t:=decide (2≤((i2-lo:Nat):Int))) rfl (fun c12=>?_) (fun c12=>?_)
        ·
         replace c12:=QQ1 c12
         refine Qag (Qab (Qaa (Qac (V:=I6 (i2:Int)) rfl (Qaa (Qa4 (a:=(i2:Int)) (b:=1) (c:=((i2-1:Nat):Int)) rfl rfl (Qaj (by omega) (by omega)) (Qaa (Qad (V:=I6 ((i2-1:Nat):Int)) rfl (Qae (Qak (Qax (fun ρ μ ρ' w'=>∃ (ρo:Env) (j:Nat) (d4:Array Int),ρ'=upd (mix [9,64,65,66,67,68,69,70,71,72,73,74,75,76,77,78,79,80,81,82,83,84,85,86,87,88,89,90,91,92,93,94] ρo ρ) 9 (I6 (j:Int))∧(j<hi)∧(d4.size=N)∧(Sort.shiftDown ltInt j d4=Sort.shiftDown ltInt (i2-1) (Sort.swp d1 i2 (i2-1)))∧μ=2*j∧Own w S w' [row (.slice a N c) (d4.toList.map (ic .u16)) 31 1]) ?_ ?_))))))))))
         ·exact ⟨_,_,i2-1,((d1.setIfInBounds i2 (d1[i2-1]!)).setIfInBounds (i2-1) (d1[i2]!)),Qah (Qam (ds:=[9,64,65,66,67,68,69,70,71,72,73,74,75,76,77,78,79,80,81,82,83,84,85,86,87,88,89,90,91,92,93,94]) (Agr.refl _ _)) rfl,(by omega),(by simp only [QQ5];exact hz1),rfl,rfl,hs⟩
         ·rintro μ ρ' w13 ⟨ρo,j,d4,rfl,hj,hz4,hdn,rfl,hs⟩
          refine Qag (Qag (Qab (Qaa (Qac (V:=I6 (j:Int)) rfl (Qaa (QcN rfl rfl (Qae (Qal (t:=decide (1≤(j:Int))) rfl (fun c14=>?_) (fun c14=>?_)))))))))
          ·
           replace c14:=QQ1 c14
           refine Qan (Qag (Qak (Qag (Qag (QaC HM [some 68,some 69,some 70,some 71,some 72,some 73,some 74,some 75,some 76,some 77,some 78] [] [0,0,3,7,0,0,32,112,240,511,1023] [pv (.slice a N c),pv (I6 (j:Int)),pv (.pointer (some ⟨bkS (.slice a N c),ofS (.slice a N c)+(j:Int).toNat*1,none⟩)),pv (I7 (d4[j]!)),pv (.slice a N c),pv (I6 (j:Int)),pv (I6 ((j-1:Nat):Int)),pv (.pointer (some ⟨bkS (.slice a N c),ofS (.slice a N c)+((j-1:Nat):Int).toNat*1,none⟩)),pv (I7 (d4[j-1]!)),pv (.bool (decide (d4[j]!<d4[j-1]!))),pv (.bool (!decide (d4[j]!<d4[j-1]!)))] (fun _ _=>_) [10] (by kernel_rfl) hs ⟨?_,?_,?_,?_,?_,?_,?_,?_,?_,?_,?_,trivial⟩ ?_)))))
           ·exact ob [] [] rfl rfl fun D ρ w hs=>Qac (V:=.slice a N c) rfl ⟨rfl,hs⟩
           ·exact ob [] [] rfl rfl fun D ρ w hs=>Qac (V:=I6 (j:Int)) rfl ⟨rfl,hs⟩
           ·exact ob [0,1] [] rfl rfl fun D ρ w hs=>Qat QaI Qap.1 (hs.rd 0 rfl) rfl rfl (by omega) (by simp only [QQ6,QQ9,QQ5,Go.Sort.size_swp];omega) ⟨rfl,hs⟩
           ·exact ob [2] [] rfl rfl fun D ρ w hs=>QaQ (j:=0) (V:=I7 (d4[j]!)) j Qap (hs.rd 0 rfl) (Qbk (by omega)) rfl rfl (by omega) ⟨rfl,hs⟩
           ·exact ob [] [] rfl rfl fun D ρ w hs=>Qac (V:=.slice a N c) rfl ⟨rfl,hs⟩
           ·exact ob [] [] rfl rfl fun D ρ w hs=>Qac (V:=I6 (j:Int)) rfl ⟨rfl,hs⟩
           ·exact ob [5] [] rfl rfl fun D ρ w hs=>Qa4 (a:=(j:Int)) (b:=1) (c:=((j-1:Nat):Int)) rfl rfl (Qaj (by omega) (by omega)) ⟨rfl,hs⟩
           ·exact ob [4,6] [] rfl rfl fun D ρ w hs=>Qat QaI Qap.1 (hs.rd 0 rfl) rfl rfl (by omega) (by simp only [QQ6,QQ9,QQ5,Go.Sort.size_swp];omega) ⟨rfl,hs⟩
           ·exact ob [7] [] rfl rfl fun D ρ w hs=>QaQ (j:=0) (V:=I7 (d4[j-1]!)) (j-1) Qap (hs.rd 0 rfl) (Qbk (by omega)) rfl rfl (by omega) ⟨rfl,hs⟩
           ·exact ob [3,8] [] rfl rfl fun D ρ w hs=>Qar (vs:=[I7 (d4[j]!),I7 (d4[j-1]!)]) (V:=.bool (decide (d4[j]!<d4[j-1]!))) Qc3 rfl rfl (Qcl _ (d4[j]!) (d4[j-1]!)) hs fun _ hs=>⟨rfl,hs⟩
           ·exact ob [9] [] rfl rfl fun D ρ w hs=>Qbw rfl ⟨rfl,hs⟩
           rintro ρ1 w16 ρ2 hρ hs
           replace hρ:ρ2=upd (mix [68,69,70,71,72,73,74,75,76,77,78] ρ1 _) 78 (.bool (!decide (d4[j]!<d4[j-1]!))):=hρ
           subst hρ
           refine Qal (t:=!decide (d4[j]!<d4[j-1]!)) rfl (fun c17=>?_) (fun c17=>?_)
           ·
            replace c17:=QbL c17
            replace c17:=QQ2 c17
            refine Qaz ?_
            exact ⟨_,d4,Qam (ds:=[9,62,63,64,65,66,67,68,69,70,71,72,73,74,75,76,77,78,79,80,81,82,83,84,85,86,87,88,89,90,91,92,93,94]) (by repeat (first|exact Agr.refl _ _|refine Agr.upd ?_ rfl|refine Agr.mix ?_ rfl)),(by unfold dnI;rw [if_pos (by omega),← hdn,Qtp c17]),hz4,hs.take 1⟩
           ·
            replace c17:=Qbr c17
            replace c17:=QQ1 c17
            refine Qan (QaC HM [some 79,some 80,some 81,some 82,some 83,some 84,some 85,some 86,some 87,some 88,some 89,some 90,some 91,some 92,some 93,none,some 94,none] [] [0,0,0,0,8,0,0,64,224,480,0,0,3072,7168,16355,32739,65535,131071] [pv (.slice a N c),pv (I6 (j:Int)),pv (.slice a N c),pv (I6 (j:Int)),pv (I6 ((j-1:Nat):Int)),pv (.slice a N c),pv (I6 (j:Int)),pv (I6 ((j-1:Nat):Int)),pv (.pointer (some ⟨bkS (.slice a N c),ofS (.slice a N c)+((j-1:Nat):Int).toNat*1,none⟩)),pv (I7 (d4[j-1]!)),pv (.slice a N c),pv (I6 (j:Int)),pv (.pointer (some ⟨bkS (.slice a N c),ofS (.slice a N c)+(j:Int).toNat*1,none⟩)),pv (I7 (d4[j]!)),pv (.pointer (some ⟨bkS (.slice a N c),ofS (.slice a N c)+(j:Int).toNat*1,none⟩)),pn,pv (.pointer (some ⟨bkS (.slice a N c),ofS (.slice a N c)+((j-1:Nat):Int).toNat*1,none⟩)),pn] (fun D ρ=>[cond (D 17) (row (.slice a N c) ((((d4.setIfInBounds j (d4[j-1]!)).setIfInBounds (j-1) (d4[j]!)).toList).map (ic .u16)) 31 1) (cond (D 15) (row (.slice a N c) (((d4.setIfInBounds j (d4[j-1]!)).toList).map (ic .u16)) 31 1) (row (.slice a N c) (d4.toList.map (ic .u16)) 31 1))]) [] (by kernel_rfl) hs ⟨?_,?_,?_,?_,?_,?_,?_,?_,?_,?_,?_,?_,?_,?_,?_,?_,?_,?_,trivial⟩ ?_)
            ·exact ob [] [] rfl rfl fun D ρ w hs=>Qac (V:=.slice a N c) rfl ⟨rfl,hs⟩
            ·exact ob [] [] rfl rfl fun D ρ w hs=>Qac (V:=I6 (j:Int)) rfl ⟨rfl,hs⟩
            ·exact ob [] [] rfl rfl fun D ρ w hs=>Qac (V:=.slice a N c) rfl ⟨rfl,hs⟩
            ·exact ob [] [] rfl rfl fun D ρ w hs=>Qac (V:=I6 (j:Int)) rfl ⟨rfl,hs⟩
            ·exact ob [3] [] rfl rfl fun D ρ w hs=>Qa4 (a:=(j:Int)) (b:=1) (c:=((j-1:Nat):Int)) rfl rfl (Qaj (by omega) (by omega)) ⟨rfl,hs⟩
            ·exact ob [] [] rfl rfl fun D ρ w hs=>Qac (V:=.slice a N c) rfl ⟨rfl,hs⟩
            ·exact ob [] [] rfl rfl fun D ρ w hs=>Qac (V:=I6 (j:Int)) rfl ⟨rfl,hs⟩
            ·exact ob [6] [] rfl rfl fun D ρ w hs=>Qa4 (a:=(j:Int)) (b:=1) (c:=((j-1:Nat):Int)) rfl rfl (Qaj (by omega) (by omega)) ⟨rfl,hs⟩
            ·exact ob [5,7] [15,17] rfl rfl fun D ρ w hs=>Qat QaI Qap.1 (hs.rd 0 rfl) rfl rfl (by omega) (by simp only [QQ6,QQ9,QQ5,Go.Sort.size_swp];omega) ⟨rfl,hs⟩
            ·exact ob [8] [15,17] rfl rfl fun D ρ w hs=>QaQ (j:=0) (V:=I7 (d4[j-1]!)) (j-1) Qap (hs.rd 0 rfl) (Qbk (by omega)) rfl rfl (by omega) ⟨rfl,hs⟩
            ·exact ob [] [] rfl rfl fun D ρ w hs=>Qac (V:=.slice a N c) rfl ⟨rfl,hs⟩
            ·exact ob [] [] rfl rfl fun D ρ w hs=>Qac (V:=I6 (j:Int)) rfl ⟨rfl,hs⟩
            ·exact ob [10,11] [15,17] rfl rfl fun D ρ w hs=>Qat QaI Qap.1 (hs.rd 0 rfl) rfl rfl (by omega) (by simp only [QQ6,QQ9,QQ5,Go.Sort.size_swp];omega) ⟨rfl,hs⟩
            ·exact ob [12] [15,17] rfl rfl fun D ρ w hs=>QaQ (j:=0) (V:=I7 (d4[j]!)) j Qap (hs.rd 0 rfl) (Qbk (by omega)) rfl rfl (by omega) ⟨rfl,hs⟩
            ·exact ob [0,1] [15,17] rfl rfl fun D ρ w hs=>Qat QaI Qap.1 (hs.rd 0 rfl) rfl rfl (by omega) (by simp only [QQ6,QQ9,QQ5,Go.Sort.size_swp];omega) ⟨rfl,hs⟩
            ·exact ob [9,14] [17] rfl rfl fun D ρ w hs=>Qcf (z:=d4[j-1]!) j Qap hs 0 rfl rfl (by omega) (by first|omega|(simp only [QQ5,Go.Sort.size_swp];omega)) rfl rfl rfl fun _ hs=>⟨trivial,hs⟩
            ·exact ob [2,4,15] [17] rfl rfl fun D ρ w hs=>Qat QaI Qap.1 (hs.rd 0 rfl) rfl rfl (by omega) (by simp only [QQ6,QQ9,QQ5,Go.Sort.size_swp];omega) ⟨rfl,hs⟩
            ·exact ob [13,15,16] [] rfl rfl fun D ρ w hs=>Qcf (z:=d4[j]!) (j-1) Qap hs 0 rfl rfl (by omega) (by first|omega|(simp only [QQ5,Go.Sort.size_swp];omega)) rfl rfl rfl fun _ hs=>⟨trivial,hs⟩
            rintro ρ1 w20 ρ2 hρ hs
            replace hρ:ρ2=mix [79,80,81,82,83,84,85,86,87,88,89,90,91,92,93,94] ρ1 _:=hρ
            replace hs:Own w S w20 [row (.slice a N c) ((((d4.setIfInBounds j (d4[j-1]!)).setIfInBounds (j-1) (d4[j]!)).toList).map (ic .u16)) 31 1]:=hs
            subst hρ
            refine Qab (Qaa (Qac (V:=I6 (j:Int)) rfl (Qaa (Qa4 (a:=(j:Int)) (b:=1) (c:=((j-1:Nat):Int)) rfl rfl (Qaj (by omega) (by omega)) (Qaa (Qad (V:=I6 ((j-1:Nat):Int)) rfl (Qae ?_)))))))
            refine ⟨_,?_,_,j-1,((d4.setIfInBounds j (d4[j-1]!)).setIfInBounds (j-1) (d4[j]!)),Qah (Qam (ds:=[9,64,65,66,67,68,69,70,71,72,73,74,75,76,77,78,79,80,81,82,83,84,85,86,87,88,89,90,91,92,93,94]) (by repeat (first|exact Agr.refl _ _|refine Agr.upd ?_ rfl|refine Agr.mix ?_ rfl))) rfl,(by omega),(by simp only [QQ5];exact hz4),(by rw [← hdn,Qrk c14 c17];rfl),rfl,hs.take 1⟩
            omega
          ·
           replace c14:=QQ2 c14
           refine Qaz ?_
           exact ⟨_,d4,Qam (ds:=[9,62,63,64,65,66,67,68,69,70,71,72,73,74,75,76,77,78,79,80,81,82,83,84,85,86,87,88,89,90,91,92,93,94]) (by repeat (first|exact Agr.refl _ _|refine Agr.upd ?_ rfl|refine Agr.mix ?_ rfl)),(by unfold dnI;rw [if_pos (by omega),← hdn,QuL c14]),hz4,hs.take 1⟩
        ·
         replace c12:=QQ2 c12
         refine Qan ?_
         exact ⟨_,((d1.setIfInBounds i2 (d1[i2-1]!)).setIfInBounds (i2-1) (d1[i2]!)),Qam (ds:=[9,62,63,64,65,66,67,68,69,70,71,72,73,74,75,76,77,78,79,80,81,82,83,84,85,86,87,88,89,90,91,92,93,94]) (by repeat (first|exact Agr.refl _ _|refine Agr.upd ?_ rfl|refine Agr.mix ?_ rfl)),(by unfold dnI;rw [if_neg (by omega)];rfl),(by simp only [QQ5];exact hz1),hs.take 1⟩
       ·rintro ρ' w21 ⟨ρo,d3,rfl,hd3,hz3,hs⟩
        refine Qag (Qab (Qaa (Qac (V:=I6 (hi:Int)) rfl (Qaa (Qac (V:=I6 (i2:Int)) rfl (Qaa (Qa4 (a:=(hi:Int)) (b:=(i2:Int)) (c:=((hi-i2:Nat):Int)) rfl rfl (Qaj (by omega) (by omega)) (Qaa (QcN rfl rfl (Qae (Qfx (fun ρ ρ' w'=>∃ (ρo:Env) (d5:Array Int),ρ'=mix [10,99,100,101,102,103,104,105,106,107,108,109,110,111,112,113,114,115,116,117,118,119,120,121,122,123,124,125,126,127,128,129,130,131,132] ρo ρ∧(d5=upI hi i2 d3)∧(d5.size=N)∧Own w S w' [row (.slice a N c) (d5.toList.map (ic .u16)) 31 1]) ?_ ?_)))))))))))
        ·
         refine Qal (t:=decide (2≤((hi-i2:Nat):Int))) rfl (fun c22=>?_) (fun c22=>?_)
         ·
          replace c22:=QQ1 c22
          refine Qag (Qab (Qaa (Qac (V:=I6 (i2:Int)) rfl (Qaa (Qav (a:=(i2:Int)) (b:=1) (c:=((i2+1:Nat):Int)) rfl rfl (Qaj (by omega) (by omega)) (Qaa (Qad (V:=I6 ((i2+1:Nat):Int)) rfl (Qae (Qak (Qax (fun ρ μ ρ' w'=>∃ (ρo:Env) (p:Nat) (d6:Array Int),ρ'=upd (mix [10,101,102,103,104,105,106,107,108,109,110,111,112,113,114,115,116,117,118,119,120,121,122,123,124,125,126,127,128,129,130,131,132] ρo ρ) 10 (I6 (p:Int))∧(i2<p∧p≤hi)∧(d6.size=N)∧(Sort.shiftUp ltInt hi p d6=Sort.shiftUp ltInt hi (i2+1) d3)∧μ=hi-p∧Own w S w' [row (.slice a N c) (d6.toList.map (ic .u16)) 31 1]) ?_ ?_))))))))))
          ·exact ⟨_,_,i2+1,d3,Qah (Qam (ds:=[10,101,102,103,104,105,106,107,108,109,110,111,112,113,114,115,116,117,118,119,120,121,122,123,124,125,126,127,128,129,130,131,132]) (Agr.refl _ _)) rfl,(by omega),hz3,rfl,rfl,hs⟩
          ·rintro μ ρ' w23 ⟨ρo,p,d6,rfl,hp,hz6,hup,rfl,hs⟩
           refine Qag (Qag (Qab (Qaa (Qac (V:=I6 (p:Int)) rfl (Qaa (Qac (V:=I6 (hi:Int)) rfl (Qaa (QaP rfl rfl (Qae (Qal (t:=decide ((p:Int)<(hi:Int))) rfl (fun c24=>?_) (fun c24=>?_)))))))))))
           ·
            replace c24:=QQ1 c24
            refine Qan (Qag (Qak (Qag (Qag (QaC HM [some 106,some 107,some 108,some 109,some 110,some 111,some 112,some 113,some 114,some 115,some 116] [] [0,0,3,7,0,0,32,112,240,511,1023] [pv (.slice a N c),pv (I6 (p:Int)),pv (.pointer (some ⟨bkS (.slice a N c),ofS (.slice a N c)+(p:Int).toNat*1,none⟩)),pv (I7 (d6[p]!)),pv (.slice a N c),pv (I6 (p:Int)),pv (I6 ((p-1:Nat):Int)),pv (.pointer (some ⟨bkS (.slice a N c),ofS (.slice a N c)+((p-1:Nat):Int).toNat*1,none⟩)),pv (I7 (d6[p-1]!)),pv (.bool (decide (d6[p]!<d6[p-1]!))),pv (.bool (!decide (d6[p]!<d6[p-1]!)))] (fun _ _=>_) [10] (by kernel_rfl) hs ⟨?_,?_,?_,?_,?_,?_,?_,?_,?_,?_,?_,trivial⟩ ?_)))))
            ·exact ob [] [] rfl rfl fun D ρ w hs=>Qac (V:=.slice a N c) rfl ⟨rfl,hs⟩
            ·exact ob [] [] rfl rfl fun D ρ w hs=>Qac (V:=I6 (p:Int)) rfl ⟨rfl,hs⟩
            ·exact ob [0,1] [] rfl rfl fun D ρ w hs=>Qat QaI Qap.1 (hs.rd 0 rfl) rfl rfl (by omega) (by simp only [QQ6,QQ9,QQ5,Go.Sort.size_swp];omega) ⟨rfl,hs⟩
            ·exact ob [2] [] rfl rfl fun D ρ w hs=>QaQ (j:=0) (V:=I7 (d6[p]!)) p Qap (hs.rd 0 rfl) (Qbk (by omega)) rfl rfl (by omega) ⟨rfl,hs⟩
            ·exact ob [] [] rfl rfl fun D ρ w hs=>Qac (V:=.slice a N c) rfl ⟨rfl,hs⟩
            ·exact ob [] [] rfl rfl fun D ρ w hs=>Qac (V:=I6 (p:Int)) rfl ⟨rfl,hs⟩
            ·exact ob [5] [] rfl rfl fun D ρ w hs=>Qa4 (a:=(p:Int)) (b:=1) (c:=((p-1:Nat):Int)) rfl rfl (Qaj (by omega) (by omega)) ⟨rfl,hs⟩
            ·exact ob [4,6] [] rfl rfl fun D ρ w hs=>Qat QaI Qap.1 (hs.rd 0 rfl) rfl rfl (by omega) (by simp only [QQ6,QQ9,QQ5,Go.Sort.size_swp];omega) ⟨rfl,hs⟩
            ·exact ob [7] [] rfl rfl fun D ρ w hs=>QaQ (j:=0) (V:=I7 (d6[p-1]!)) (p-1) Qap (hs.rd 0 rfl) (Qbk (by omega)) rfl rfl (by omega) ⟨rfl,hs⟩
            ·exact ob [3,8] [] rfl rfl fun D ρ w hs=>Qar (vs:=[I7 (d6[p]!),I7 (d6[p-1]!)]) (V:=.bool (decide (d6[p]!<d6[p-1]!))) Qc3 rfl rfl (Qcl _ (d6[p]!) (d6[p-1]!)) hs fun _ hs=>⟨rfl,hs⟩
            ·exact ob [9] [] rfl rfl fun D ρ w hs=>Qbw rfl ⟨rfl,hs⟩
            rintro ρ1 w26 ρ2 hρ hs
            replace hρ:ρ2=upd (mix [106,107,108,109,110,111,112,113,114,115,116] ρ1 _) 116 (.bool (!decide (d6[p]!<d6[p-1]!))):=hρ
            subst hρ
            refine Qal (t:=!decide (d6[p]!<d6[p-1]!)) rfl (fun c27=>?_) (fun c27=>?_)
            ·
             replace c27:=QbL c27
             replace c27:=QQ2 c27
             refine Qaz ?_
             exact ⟨_,d6,Qam (ds:=[10,99,100,101,102,103,104,105,106,107,108,109,110,111,112,113,114,115,116,117,118,119,120,121,122,123,124,125,126,127,128,129,130,131,132]) (by repeat (first|exact Agr.refl _ _|refine Agr.upd ?_ rfl|refine Agr.mix ?_ rfl)),(by unfold upI;rw [if_pos (by omega),← hup,Qtf c24 c27]),hz6,hs.take 1⟩
            ·
             replace c27:=Qbr c27
             replace c27:=QQ1 c27
             refine Qan (QaC HM [some 117,some 118,some 119,some 120,some 121,some 122,some 123,some 124,some 125,some 126,some 127,some 128,some 129,some 130,some 131,none,some 132,none] [] [0,0,0,0,8,0,0,64,224,480,0,0,3072,7168,16355,32739,65535,131071] [pv (.slice a N c),pv (I6 (p:Int)),pv (.slice a N c),pv (I6 (p:Int)),pv (I6 ((p-1:Nat):Int)),pv (.slice a N c),pv (I6 (p:Int)),pv (I6 ((p-1:Nat):Int)),pv (.pointer (some ⟨bkS (.slice a N c),ofS (.slice a N c)+((p-1:Nat):Int).toNat*1,none⟩)),pv (I7 (d6[p-1]!)),pv (.slice a N c),pv (I6 (p:Int)),pv (.pointer (some ⟨bkS (.slice a N c),ofS (.slice a N c)+(p:Int).toNat*1,none⟩)),pv (I7 (d6[p]!)),pv (.pointer (some ⟨bkS (.slice a N c),ofS (.slice a N c)+(p:Int).toNat*1,none⟩)),pn,pv (.pointer (some ⟨bkS (.slice a N c),ofS (.slice a N c)+((p-1:Nat):Int).toNat*1,none⟩)),pn] (fun D ρ=>[cond (D 17) (row (.slice a N c) ((((d6.setIfInBounds p (d6[p-1]!)).setIfInBounds (p-1) (d6[p]!)).toList).map (ic .u16)) 31 1) (cond (D 15) (row (.slice a N c) (((d6.setIfInBounds p (d6[p-1]!)).toList).map (ic .u16)) 31 1) (row (.slice a N c) (d6.toList.map (ic .u16)) 31 1))]) [] (by kernel_rfl) hs ⟨?_,?_,?_,?_,?_,?_,?_,?_,?_,?_,?_,?_,?_,?_,?_,?_,?_,?_,trivial⟩ ?_)
             ·exact ob [] [] rfl rfl fun D ρ w hs=>Qac (V:=.slice a N c) rfl ⟨rfl,hs⟩
             ·exact ob [] [] rfl rfl fun D ρ w hs=>Qac (V:=I6 (p:Int)) rfl ⟨rfl,hs⟩
             ·exact ob [] [] rfl rfl fun D ρ w hs=>Qac (V:=.slice a N c) rfl ⟨rfl,hs⟩
             ·exact ob [] [] rfl rfl fun D ρ w hs=>Qac (V:=I6 (p:Int)) rfl ⟨rfl,hs⟩
             ·exact ob [3] [] rfl rfl fun D ρ w hs=>Qa4 (a:=(p:Int)) (b:=1) (c:=((p-1:Nat):Int)) rfl rfl (Qaj (by omega) (by omega)) ⟨rfl,hs⟩
             ·exact ob [] [] rfl rfl fun D ρ w hs=>Qac (V:=.slice a N c) rfl ⟨rfl,hs⟩
             ·exact ob [] [] rfl rfl fun D ρ w hs=>Qac (V:=I6 (p:Int)) rfl ⟨rfl,hs⟩
             ·exact ob [6] [] rfl rfl fun D ρ w hs=>Qa4 (a:=(p:Int)) (b:=1) (c:=((p-1:Nat):Int)) rfl rfl (Qaj (by omega) (by omega)) ⟨rfl,hs⟩
             ·exact ob [5,7] [15,17] rfl rfl fun D ρ w hs=>Qat QaI Qap.1 (hs.rd 0 rfl) rfl rfl (by omega) (by simp only [QQ6,QQ9,QQ5,Go.Sort.size_swp];omega) ⟨rfl,hs⟩
             ·exact ob [8] [15,17] rfl rfl fun D ρ w hs=>QaQ (j:=0) (V:=I7 (d6[p-1]!)) (p-1) Qap (hs.rd 0 rfl) (Qbk (by omega)) rfl rfl (by omega) ⟨rfl,hs⟩
             ·exact ob [] [] rfl rfl fun D ρ w hs=>Qac (V:=.slice a N c) rfl ⟨rfl,hs⟩
             ·exact ob [] [] rfl rfl fun D ρ w hs=>Qac (V:=I6 (p:Int)) rfl ⟨rfl,hs⟩
             ·exact ob [10,11] [15,17] rfl rfl fun D ρ w hs=>Qat QaI Qap.1 (hs.rd 0 rfl) rfl rfl (by omega) (by simp only [QQ6,QQ9,QQ5,Go.Sort.size_swp];omega) ⟨rfl,hs⟩
             ·exact ob [12] [15,17] rfl rfl fun D ρ w hs=>QaQ (j:=0) (V:=I7 (d6[p]!)) p Qap (hs.rd 0 rfl) (Qbk (by omega)) rfl rfl (by omega) ⟨rfl,hs⟩
             ·exact ob [0,1] [15,17] rfl rfl fun D ρ w hs=>Qat QaI Qap.1 (hs.rd 0 rfl) rfl rfl (by omega) (by simp only [QQ6,QQ9,QQ5,Go.Sort.size_swp];omega) ⟨rfl,hs⟩
             ·exact ob [9,14] [17] rfl rfl fun D ρ w hs=>Qcf (z:=d6[p-1]!) p Qap hs 0 rfl rfl (by omega) (by first|omega|(simp only [QQ5,Go.Sort.size_swp];omega)) rfl rfl rfl fun _ hs=>⟨trivial,hs⟩
             ·exact ob [2,4,15] [17] rfl rfl fun D ρ w hs=>Qat QaI Qap.1 (hs.rd 0 rfl) rfl rfl (by omega) (by simp only [QQ6,QQ9,QQ5,Go.Sort.size_swp];omega) ⟨rfl,hs⟩
             ·exact ob [13,15,16] [] rfl rfl fun D ρ w hs=>Qcf (z:=d6[p]!) (p-1) Qap hs 0 rfl rfl (by omega) (by first|omega|(simp only [QQ5,Go.Sort.size_swp];omega)) rfl rfl rfl fun _ hs=>⟨trivial,hs⟩
             rintro ρ1 w30 ρ2 hρ hs
             replace hρ:ρ2=mix [117,118,119,120,121,122,123,124,125,126,127,128,129,130,131,132] ρ1 _:=hρ
             replace hs:Own w S w30 [row (.slice a N c) ((((d6.setIfInBounds p (d6[p-1]!)).setIfInBounds (p-1) (d6[p]!)).toList).map (ic .u16)) 31 1]:=hs
             subst hρ
             refine Qab (Qaa (Qac (V:=I6 (p:Int)) rfl (Qaa (Qav (a:=(p:Int)) (b:=1) (c:=((p+1:Nat):Int)) rfl rfl (Qaj (by omega) (by omega)) (Qaa (Qad (V:=I6 ((p+1:Nat):Int)) rfl (Qae ?_)))))))
             refine ⟨_,?_,_,p+1,((d6.setIfInBounds p (d6[p-1]!)).setIfInBounds (p-1) (d6[p]!)),Qah (Qam (ds:=[10,101,102,103,104,105,106,107,108,109,110,111,112,113,114,115,116,117,118,119,120,121,122,123,124,125,126,127,128,129,130,131,132]) (by repeat (first|exact Agr.refl _ _|refine Agr.upd ?_ rfl|refine Agr.mix ?_ rfl))) rfl,(by omega),(by simp only [QQ5];exact hz6),(by rw [← hup,QrI c24 c27];rfl),rfl,hs.take 1⟩
             omega
           ·
            replace c24:=QQ2 c24
            refine Qaz ?_
            exact ⟨_,d6,Qam (ds:=[10,99,100,101,102,103,104,105,106,107,108,109,110,111,112,113,114,115,116,117,118,119,120,121,122,123,124,125,126,127,128,129,130,131,132]) (by repeat (first|exact Agr.refl _ _|refine Agr.upd ?_ rfl|refine Agr.mix ?_ rfl)),(by unfold upI;rw [if_pos (by omega),← hup,QuO c24]),hz6,hs.take 1⟩
         ·
          replace c22:=QQ2 c22
          refine Qan ?_
          exact ⟨_,d3,Qam (ds:=[10,99,100,101,102,103,104,105,106,107,108,109,110,111,112,113,114,115,116,117,118,119,120,121,122,123,124,125,126,127,128,129,130,131,132]) (by repeat (first|exact Agr.refl _ _|refine Agr.upd ?_ rfl|refine Agr.mix ?_ rfl)),(by unfold upI;rw [if_neg (by omega)]),hz3,hs.take 1⟩
        ·rintro ρ' w31 ⟨ρo,d5,rfl,hd5,hz5,hs⟩
         refine Qab (Qaa (Qac (V:=I6 (q:Int)) rfl (Qaa (Qav (a:=(q:Int)) (b:=1) (c:=((q+1:Nat):Int)) rfl rfl (Qaj (by omega) (by omega)) (Qaa (Qad (V:=I6 ((q+1:Nat):Int)) rfl (Qae ?_)))))))
         refine ⟨_,?_,_,q+1,i2,d5,Qah (Qah (Qam (ds:=[6,7,8,9,10,13,14,15,16,17,18,19,20,21,22,23,24,25,26,27,28,29,30,31,32,33,34,35,36,37,38,39,40,41,42,43,44,45,46,47,48,49,50,51,52,53,54,55,56,57,58,59,60,61,62,63,64,65,66,67,68,69,70,71,72,73,74,75,76,77,78,79,80,81,82,83,84,85,86,87,88,89,90,91,92,93,94,95,96,97,98,99,100,101,102,103,104,105,106,107,108,109,110,111,112,113,114,115,116,117,118,119,120,121,122,123,124,125,126,127,128,129,130,131,132]) (by repeat (first|exact Agr.refl _ _|refine Agr.upd ?_ rfl|refine Agr.mix ?_ rfl))) rfl) rfl,(by omega),(by omega),(by omega),hz5,(by rw [← hev,Qin (q:=q) (by omega) hi2e,if_neg (by omega),if_neg (by omega),hd5,hd3]),rfl,hs.take 1⟩
         omega
  ·
   replace c2:=QQ2 c2
   refine Qaz (Qag (Qab (Qaa (Qad (V:=.bool false) rfl (Qae (Qas ?_))))))
   refine ⟨_,Qao (V:=.bool false) Tryz.results134 rfl,?_⟩
   have hq5:q=5:=by omega
   subst hq5
   have hX:Sort.partialInsertionSort ltInt d lo hi=(d1,false):=hev.symm
   rw [hX]
   exact ⟨(),rfl,hs.take 1,hz1⟩
end Tt
end Go.Proofs
namespace Go.Proofs
open Go Go.Vx Go.RowKit
open Go.Sort (ltInt medianAdjacent order2 partition)
namespace Tt
section
variable {p:Int→Bool} {b:Bool} {i j:Nat} {d:Array Int}
theorem Qlo (hb:b=p d[i]!) (h:(i:Int)≤(j:Int)) (h2:b=true):Sort.scanUp p d j i=Sort.scanUp p d j (i+1):=by
 rw [Sort.scanUp,if_pos]
 rw [← hb,h2,Bool.and_true];exact QQ3 (by omega)
theorem Qqv (hb:b=p d[i]!) (h:(decide ((i:Int)≤(j:Int))&&b)=false):Sort.scanUp p d j i=i:=by
 rw [Sort.scanUp,if_neg]
 rw [← hb]
 intro h2
 rw [Bool.and_eq_true,decide_eq_true_iff] at h2
 rw [h2.2,Bool.and_true,decide_eq_false_iff_not] at h
 exact h (by omega)
theorem QlW (h0:1≤j) (hb:b=p d[j]!) (h:(i:Int)≤(j:Int)) (h2:b=true):Sort.scanDown p d i j=Sort.scanDown p d i (j-1):=by
 obtain ⟨k,rfl⟩:∃ k,j=k+1:=⟨j-1,by omega⟩
 rw [Sort.scanDown,if_pos]
 ·rfl
 ·rw [← hb,h2,Bool.and_true];exact QQ3 (by omega)
theorem Qpq (hb:b=p d[j]!) (h:(decide ((i:Int)≤(j:Int))&&b)=false):Sort.scanDown p d i j=j:=by
 cases j with
 | zero=>rfl
 | succ k =>
  rw [Sort.scanDown,if_neg]
  rw [← hb]
  intro h2
  rw [Bool.and_eq_true,decide_eq_true_iff] at h2
  rw [h2.2,Bool.and_true,decide_eq_false_iff_not] at h
  exact h (by omega)
theorem Qqu {lo i2 j2:Nat} (hi:i2=Sort.scanUp (fun x=>!ltInt d[lo]! x) d j i) (hj:j2=Sort.scanDown (fun x=>ltInt d[lo]! x) d i2 j) (h:(j2:Int)<(i2:Int)):Sort.partEqLoop ltInt lo i j d=(i2,d):=by
 rw [Sort.partEqLoop_eq,← hi,← hj,if_pos (by omega)]
theorem Qtd {lo i2 j2:Nat} (hi:i2=Sort.scanUp (fun x=>!ltInt d[lo]! x) d j i) (hj:j2=Sort.scanDown (fun x=>ltInt d[lo]! x) d i2 j) (h:¬(j2:Int)<(i2:Int)):Sort.partEqLoop ltInt lo i j d=Sort.partEqLoop ltInt lo (i2+1) (j2-1) (Sort.swp d i2 j2):=by
 rw [Sort.partEqLoop_eq,← hi,← hj,if_neg (by omega)]
theorem Qqa {lo i2 j2:Nat} (hi:i2=Sort.scanUp (fun x=>ltInt x d[lo]!) d j i) (hj:j2=Sort.scanDown (fun x=>!ltInt x d[lo]!) d i2 j) (h:(j2:Int)<(i2:Int)):Sort.partLoop ltInt lo i j d=(j2,d):=by
 rw [Sort.partLoop_eq,← hi,← hj,if_pos (by omega)]
theorem Qtq {lo i2 j2:Nat} (hi:i2=Sort.scanUp (fun x=>ltInt x d[lo]!) d j i) (hj:j2=Sort.scanDown (fun x=>!ltInt x d[lo]!) d i2 j) (h:¬(j2:Int)<(i2:Int)):Sort.partLoop ltInt lo i j d=Sort.partLoop ltInt lo (i2+1) (j2-1) (Sort.swp d i2 j2):=by
 rw [Sort.partLoop_eq,← hi,← hj,if_neg (by omega)]
theorem Qqn {lo hi pvx i2 j2:Nat} {D:Array Int} (hD:D=Sort.swp d lo pvx) (h1:i2=Sort.scanUp (fun x=>ltInt x D[lo]!) D (hi-1) (lo+1)) (h2:j2=Sort.scanDown (fun x=>!ltInt x D[lo]!) D i2 (hi-1)) (h:(j2:Int)<(i2:Int)):partition ltInt d lo hi pvx=(j2,true,Sort.swp D j2 lo):=by
 subst hD;unfold partition;dsimp only;rw [← h1,← h2,if_pos (by omega)]
theorem Qua {lo hi pvx i2 j2:Nat} {D:Array Int} (hD:D=Sort.swp d lo pvx) (h1:i2=Sort.scanUp (fun x=>ltInt x D[lo]!) D (hi-1) (lo+1)) (h2:j2=Sort.scanDown (fun x=>!ltInt x D[lo]!) D i2 (hi-1)) (h:¬(j2:Int)<(i2:Int)):partition ltInt d lo hi pvx=((Sort.partLoop ltInt lo (i2+1) (j2-1) (Sort.swp D i2 j2)).1,false,Sort.swp (Sort.partLoop ltInt lo (i2+1) (j2-1) (Sort.swp D i2 j2)).2 (Sort.partLoop ltInt lo (i2+1) (j2-1) (Sort.swp D i2 j2)).1 lo):=by
 subst hD;unfold partition;dsimp only;rw [← h1,← h2,if_neg (by omega)]
end
theorem Qt3 (w:World) (S:Nat→Prop) (a:Option Addr) (N c:Nat) (d:Array Int) (hsz:d.size=N) (hN:N≤2305843009213693951) (lo hi pvx:Nat) (h1:lo≤pvx) (h2:pvx<hi) (h3:hi≤N) (hR:(row (.slice a N c) (d.toList.map (ic .u16)) 31 1).holds w S) (hlt:∀ x,S x→x<w.heap.size):Calls Tryz.prog 136 #[.slice a N c,.int .i64 (lo:Int),.int .i64 (hi:Int),.int .i64 (pvx:Int)] w (fun e w'=>∃ _u:Unit,e = .returned (.int .i64 (((Sort.partitionEqual ltInt d lo hi pvx).1:Nat):Int))∧Own w S w' [row (.slice a N c) (((Sort.partitionEqual ltInt d lo hi pvx).2).toList.map (ic .u16)) 31 1]∧(Sort.partitionEqual ltInt d lo hi pvx).2.size=N):=by
 refine Qai (n:=84) Tryz.func136 rfl Tryz.ntmps136 rfl ?_
 have hs:=Own.lent hR hlt
 refine Qag (Qab (Qaa (Qad (V:=I6 0) rfl (Qae (Qag (QaC HM [some 11,some 12,some 13,some 14,some 15,some 16,some 17,some 18,some 19,some 20,some 21,some 22,some 23,none,some 24,none] [] [0,0,0,0,0,0,48,112,0,0,768,1792,4083,8179,16383,32767] [pv (.slice a N c),pv (I6 (lo:Int)),pv (.slice a N c),pv (I6 (pvx:Int)),pv (.slice a N c),pv (I6 (pvx:Int)),pv (.pointer (some ⟨bkS (.slice a N c),ofS (.slice a N c)+(pvx:Int).toNat*1,none⟩)),pv (I7 (d[pvx]!)),pv (.slice a N c),pv (I6 (lo:Int)),pv (.pointer (some ⟨bkS (.slice a N c),ofS (.slice a N c)+(lo:Int).toNat*1,none⟩)),pv (I7 (d[lo]!)),pv (.pointer (some ⟨bkS (.slice a N c),ofS (.slice a N c)+(lo:Int).toNat*1,none⟩)),pn,pv (.pointer (some ⟨bkS (.slice a N c),ofS (.slice a N c)+(pvx:Int).toNat*1,none⟩)),pn] (fun D ρ=>[cond (D 15) (row (.slice a N c) ((((d.setIfInBounds lo (d[pvx]!)).setIfInBounds pvx (d[lo]!)).toList).map (ic .u16)) 31 1) (cond (D 13) (row (.slice a N c) (((d.setIfInBounds lo (d[pvx]!)).toList).map (ic .u16)) 31 1) (row (.slice a N c) (d.toList.map (ic .u16)) 31 1))]) [] (by kernel_rfl) hs ⟨?_,?_,?_,?_,?_,?_,?_,?_,?_,?_,?_,?_,?_,?_,?_,?_,trivial⟩ ?_))))))
 ·exact ob [] [] rfl rfl fun D ρ w hs=>Qac (V:=.slice a N c) rfl ⟨rfl,hs⟩
 ·exact ob [] [] rfl rfl fun D ρ w hs=>Qac (V:=I6 (lo:Int)) rfl ⟨rfl,hs⟩
 ·exact ob [] [] rfl rfl fun D ρ w hs=>Qac (V:=.slice a N c) rfl ⟨rfl,hs⟩
 ·exact ob [] [] rfl rfl fun D ρ w hs=>Qac (V:=I6 (pvx:Int)) rfl ⟨rfl,hs⟩
 ·exact ob [] [] rfl rfl fun D ρ w hs=>Qac (V:=.slice a N c) rfl ⟨rfl,hs⟩
 ·exact ob [] [] rfl rfl fun D ρ w hs=>Qac (V:=I6 (pvx:Int)) rfl ⟨rfl,hs⟩
 ·exact ob [4,5] [13,15] rfl rfl fun D ρ w hs=>Qat QaI Qap.1 (hs.rd 0 rfl) rfl rfl (by omega) (by simp only [QQ6,QQ9,QQ5,Go.Sort.size_swp];omega) ⟨rfl,hs⟩
 ·exact ob [6] [13,15] rfl rfl fun D ρ w hs=>QaQ (j:=0) (V:=I7 (d[pvx]!)) pvx Qap (hs.rd 0 rfl) (Qbk (by omega)) rfl rfl (by omega) ⟨rfl,hs⟩
 ·exact ob [] [] rfl rfl fun D ρ w hs=>Qac (V:=.slice a N c) rfl ⟨rfl,hs⟩
 ·exact ob [] [] rfl rfl fun D ρ w hs=>Qac (V:=I6 (lo:Int)) rfl ⟨rfl,hs⟩
 ·exact ob [8,9] [13,15] rfl rfl fun D ρ w hs=>Qat QaI Qap.1 (hs.rd 0 rfl) rfl rfl (by omega) (by simp only [QQ6,QQ9,QQ5,Go.Sort.size_swp];omega) ⟨rfl,hs⟩
 ·exact ob [10] [13,15] rfl rfl fun D ρ w hs=>QaQ (j:=0) (V:=I7 (d[lo]!)) lo Qap (hs.rd 0 rfl) (Qbk (by omega)) rfl rfl (by omega) ⟨rfl,hs⟩
 ·exact ob [0,1] [13,15] rfl rfl fun D ρ w hs=>Qat QaI Qap.1 (hs.rd 0 rfl) rfl rfl (by omega) (by simp only [QQ6,QQ9,QQ5,Go.Sort.size_swp];omega) ⟨rfl,hs⟩
 ·exact ob [7,12] [15] rfl rfl fun D ρ w hs=>Qcf (z:=d[pvx]!) lo Qap hs 0 rfl rfl (by omega) (by first|omega|(simp only [QQ5,Go.Sort.size_swp];omega)) rfl rfl rfl fun _ hs=>⟨trivial,hs⟩
 ·exact ob [2,3,13] [15] rfl rfl fun D ρ w hs=>Qat QaI Qap.1 (hs.rd 0 rfl) rfl rfl (by omega) (by simp only [QQ6,QQ9,QQ5,Go.Sort.size_swp];omega) ⟨rfl,hs⟩
 ·exact ob [11,13,14] [] rfl rfl fun D ρ w hs=>Qcf (z:=d[lo]!) pvx Qap hs 0 rfl rfl (by omega) (by first|omega|(simp only [QQ5,Go.Sort.size_swp];omega)) rfl rfl rfl fun _ hs=>⟨trivial,hs⟩
 rintro ρ1 w3 ρ2 hρ hs
 replace hρ:ρ2=mix [11,12,13,14,15,16,17,18,19,20,21,22,23,24] ρ1 _:=hρ
 replace hs:Own w S w3 [row (.slice a N c) ((((d.setIfInBounds lo (d[pvx]!)).setIfInBounds pvx (d[lo]!)).toList).map (ic .u16)) 31 1]:=hs
 subst hρ
 refine Qag (Qab (Qaa (Qac (V:=I6 (lo:Int)) rfl (Qaa (Qav (a:=(lo:Int)) (b:=1) (c:=((lo+1:Nat):Int)) rfl rfl (Qaj (by omega) (by omega)) (Qaa (Qac (V:=I6 (hi:Int)) rfl (Qaa (Qa4 (a:=(hi:Int)) (b:=1) (c:=((hi-1:Nat):Int)) rfl rfl (Qaj (by omega) (by omega)) (Qaa (Qad (V:=I6 ((lo+1:Nat):Int)) rfl (Qaa (Qad (V:=I6 ((hi-1:Nat):Int)) rfl (Qae (Qag (Qak (Qax (fun ρ μ ρ' w'=>∃ (ρo:Env) (i:Nat) (j:Nat) (d1:Array Int),ρ'=upd (upd (mix [9,10,29,30,31,32,33,34,35,36,37,38,39,40,41,42,43,44,45,46,47,48,49,50,51,52,53,54,55,56,57,58,59,60,61,62,63,64,65,66,67,68,69,70,71,72,73,74,75,76,77,78,79,80,81,82] ρo ρ) 9 (I6 (i:Int))) 10 (I6 (j:Int))∧(lo+1≤i)∧(i≤hi+1)∧(j<hi)∧(d1.size=N)∧(Sort.partEqLoop ltInt lo i j d1=Sort.partitionEqual ltInt d lo hi pvx)∧μ=j+1-i∧Own w S w' [row (.slice a N c) (d1.toList.map (ic .u16)) 31 1]) ?_ ?_)))))))))))))))))
 ·exact ⟨_,_,lo+1,hi-1,(Sort.swp d lo pvx),Qah (Qah (Qam (ds:=[9,10,29,30,31,32,33,34,35,36,37,38,39,40,41,42,43,44,45,46,47,48,49,50,51,52,53,54,55,56,57,58,59,60,61,62,63,64,65,66,67,68,69,70,71,72,73,74,75,76,77,78,79,80,81,82]) (Agr.refl _ _)) rfl) rfl,(Nat.le_refl _),(by omega),(by omega),(by rw [Go.Sort.size_swp];exact hsz),rfl,rfl,hs⟩
 ·rintro μ ρ' w4 ⟨ρo,i,j,d1,rfl,hi0,hi1,hj,hz1,hev,rfl,hs⟩
  refine Qak (Qag (Qak (Qax (fun ρ μ ρ' w'=>∃ (ρo:Env) (i2:Nat),ρ'=upd (mix [9,29,30,31,32,33,34,35,36,37,38,39,40,41,42,43,44,45] ρo ρ) 9 (I6 (i2:Int))∧(i≤i2)∧(i2≤hi+1)∧(Sort.scanUp (fun x=>!ltInt d1[lo]! x) d1 (j) i2=Sort.scanUp (fun x=>!ltInt d1[lo]! x) d1 (j) (i))∧μ=j+1-i2∧Own w S w' [row (.slice a N c) (d1.toList.map (ic .u16)) 31 1]) ?_ ?_)))
  ·exact ⟨_,_,i,Qah (Qam (ds:=[9,29,30,31,32,33,34,35,36,37,38,39,40,41,42,43,44,45]) (Agr.refl _ _)) rfl,(Nat.le_refl _),(by omega),rfl,rfl,hs⟩
  ·rintro μ ρ' w5 ⟨ρo,i2,rfl,hi2a,hi2b,hsu,rfl,hs⟩
   refine Qag (Qag (QaC HM [some 29,some 30,some 31,some 32,some 33,some 34,some 35,some 36,some 37,some 38,some 39,some 40,some 41,some 42,some 43] [] [0,0,3,7,15,15,63,127,15,15,783,1807,4095,8191,16383] [pv (I6 (i2:Int)),pv (I6 (j:Int)),pv (.bool (decide ((i2:Int)≤(j:Int)))),pv (.bool (decide ((i2:Int)≤(j:Int)))),pg ((decide ((i2:Int)≤(j:Int))) == true) (.slice a N c),pg ((decide ((i2:Int)≤(j:Int))) == true) (I6 (lo:Int)),pg ((decide ((i2:Int)≤(j:Int))) == true) (.pointer (some ⟨bkS (.slice a N c),ofS (.slice a N c)+(lo:Int).toNat*1,none⟩)),pg ((decide ((i2:Int)≤(j:Int))) == true) (I7 (d1[lo]!)),pg ((decide ((i2:Int)≤(j:Int))) == true) (.slice a N c),pg ((decide ((i2:Int)≤(j:Int))) == true) (I6 (i2:Int)),pg ((decide ((i2:Int)≤(j:Int))) == true) (.pointer (some ⟨bkS (.slice a N c),ofS (.slice a N c)+(i2:Int).toNat*1,none⟩)),pg ((decide ((i2:Int)≤(j:Int))) == true) (I7 (d1[i2]!)),pg ((decide ((i2:Int)≤(j:Int))) == true) (.bool (decide (d1[lo]!<d1[i2]!))),pg ((decide ((i2:Int)≤(j:Int))) == true) (.bool (!decide (d1[lo]!<d1[i2]!))),pv (.bool ((decide ((i2:Int)≤(j:Int)))&&(!decide (d1[lo]!<d1[i2]!))))] (fun _ _=>_) [14] (by kernel_rfl) hs ⟨?_,?_,?_,?_,?_,?_,?_,?_,?_,?_,?_,?_,?_,?_,?_,trivial⟩ ?_))
   ·exact ob [] [] rfl rfl fun D ρ w hs=>Qac (V:=I6 (i2:Int)) rfl ⟨rfl,hs⟩
   ·exact ob [] [] rfl rfl fun D ρ w hs=>Qac (V:=I6 (j:Int)) rfl ⟨rfl,hs⟩
   ·exact ob [0,1] [] rfl rfl fun D ρ w hs=>Qd9 rfl rfl ⟨rfl,hs⟩
   ·exact ob [2] [] rfl rfl fun D ρ w hs=>Qac (V:=.bool (decide ((i2:Int)≤(j:Int)))) rfl ⟨rfl,hs⟩
   ·refine obg [3] [] (decide ((i2:Int)≤(j:Int))) rfl (fun _=>rfl) rfl (fun _ _ _ _ h=>h) fun D ρ w hG hs=>?_
    have hgd:=QQ1 (eq_of_beq hG)
    exact Qac (V:=.slice a N c) rfl ⟨rfl,hs⟩
   ·refine obg [3] [] (decide ((i2:Int)≤(j:Int))) rfl (fun _=>rfl) rfl (fun _ _ _ _ h=>h) fun D ρ w hG hs=>?_
    have hgd:=QQ1 (eq_of_beq hG)
    exact Qac (V:=.int .i64 (lo:Int)) rfl ⟨rfl,hs⟩
   ·refine obgy [3,4,5] [] [4,5] (decide ((i2:Int)≤(j:Int))) rfl (fun _=>rfl) rfl (fun _ _ _ _ h=>h) (fun hG=>⟨hG,hG,trivial⟩) fun D ρ w hG hs=>?_
    have hgd:=QQ1 (eq_of_beq hG)
    exact Qat QaI Qap.1 (hs.rd 0 rfl) rfl rfl (by omega) (by simp only [QQ6,QQ9,QQ5,Go.Sort.size_swp];omega) ⟨rfl,hs⟩
   ·refine obgy [3,6] [] [6] (decide ((i2:Int)≤(j:Int))) rfl (fun _=>rfl) rfl (fun _ _ _ _ h=>h) (fun hG=>⟨hG,trivial⟩) fun D ρ w hG hs=>?_
    have hgd:=QQ1 (eq_of_beq hG)
    exact QaQ (j:=0) (V:=.int .u16 (d1[lo]!)) lo Qap (hs.rd 0 rfl) (Qbk (by omega)) rfl rfl (by omega) ⟨rfl,hs⟩
   ·refine obg [3] [] (decide ((i2:Int)≤(j:Int))) rfl (fun _=>rfl) rfl (fun _ _ _ _ h=>h) fun D ρ w hG hs=>?_
    have hgd:=QQ1 (eq_of_beq hG)
    exact Qac (V:=.slice a N c) rfl ⟨rfl,hs⟩
   ·refine obg [3] [] (decide ((i2:Int)≤(j:Int))) rfl (fun _=>rfl) rfl (fun _ _ _ _ h=>h) fun D ρ w hG hs=>?_
    have hgd:=QQ1 (eq_of_beq hG)
    exact Qac (V:=.int .i64 (i2:Int)) rfl ⟨rfl,hs⟩
   ·refine obgy [3,8,9] [] [8,9] (decide ((i2:Int)≤(j:Int))) rfl (fun _=>rfl) rfl (fun _ _ _ _ h=>h) (fun hG=>⟨hG,hG,trivial⟩) fun D ρ w hG hs=>?_
    have hgd:=QQ1 (eq_of_beq hG)
    exact Qat QaI Qap.1 (hs.rd 0 rfl) rfl rfl (by omega) (by simp only [QQ6,QQ9,QQ5,Go.Sort.size_swp];omega) ⟨rfl,hs⟩
   ·refine obgy [3,10] [] [10] (decide ((i2:Int)≤(j:Int))) rfl (fun _=>rfl) rfl (fun _ _ _ _ h=>h) (fun hG=>⟨hG,trivial⟩) fun D ρ w hG hs=>?_
    have hgd:=QQ1 (eq_of_beq hG)
    exact QaQ (j:=0) (V:=.int .u16 (d1[i2]!)) i2 Qap (hs.rd 0 rfl) (Qbk (by omega)) rfl rfl (by omega) ⟨rfl,hs⟩
   ·refine obgy [3,7,11] [] [7,11] (decide ((i2:Int)≤(j:Int))) rfl (fun _=>rfl) rfl (fun _ _ _ _ h=>h) (fun hG=>⟨hG,hG,trivial⟩) fun D ρ w hG hs=>?_
    have hgd:=QQ1 (eq_of_beq hG)
    exact Qar (vs:=[.int .u16 (d1[lo]!),.int .u16 (d1[i2]!)]) (V:=.bool (decide (d1[lo]!<d1[i2]!))) Qc3 rfl rfl (Qcl _ (d1[lo]!) (d1[i2]!)) hs fun _ hs=>⟨rfl,hs⟩
   ·refine obgy [3,12] [] [12] (decide ((i2:Int)≤(j:Int))) rfl (fun _=>rfl) rfl (fun _ _ _ _ h=>h) (fun hG=>⟨hG,trivial⟩) fun D ρ w hG hs=>?_
    have hgd:=QQ1 (eq_of_beq hG)
    exact Qbw rfl ⟨rfl,hs⟩
   ·exact ob [3,13] [] rfl rfl fun D ρ w hs=>Qa3 (h':=!decide (d1[lo]!<d1[i2]!)) rfl rfl rfl ⟨rfl,hs⟩
   rintro ρ1 w7 ρ2 hρ hs
   replace hρ:ρ2=upd (mix [29,30,31,32,33,34,35,36,37,38,39,40,41,42,43] ρ1 _) 43 (.bool ((decide ((i2:Int)≤(j:Int)))&&(!decide (d1[lo]!<d1[i2]!)))):=hρ
   subst hρ
   refine Qal (t:=(decide ((i2:Int)≤(j:Int)))&&(!decide (d1[lo]!<d1[i2]!))) rfl (fun c8=>?_) (fun c8=>?_)
   ·
    have c8r:=Qcd c8
    replace c8:=QbQ c8
    replace c8:=QQ1 c8
    replace c8r:=QbL c8r
    replace c8r:=QQ2 c8r
    refine Qan (Qak (Qab (Qaa (Qac (V:=I6 (i2:Int)) rfl (Qaa (Qav (a:=(i2:Int)) (b:=1) (c:=((i2+1:Nat):Int)) rfl rfl (Qaj (by omega) (by omega)) (Qaa (Qad (V:=I6 ((i2+1:Nat):Int)) rfl (Qae ?_)))))))))
    refine ⟨_,?_,_,i2+1,Qah (Qam (ds:=[9,29,30,31,32,33,34,35,36,37,38,39,40,41,42,43,44,45]) (by repeat (first|exact Agr.refl _ _|refine Agr.upd ?_ rfl|refine Agr.mix ?_ rfl))) rfl,(by omega),(by omega),(by rw [← hsu,Qlo (p:=fun x=>!ltInt d1[lo]! x) (b:=!decide (d1[lo]!<d1[i2]!)) rfl c8 (by rw [QQ4 c8r];rfl)]),rfl,hs.take 1⟩
    omega
   ·
    refine Qaz (Qag (Qak ?_))
    have hi2:i2=Sort.scanUp (fun x=>!ltInt d1[lo]! x) d1 j i:=by rw [← hsu,Qqv (p:=fun x=>!ltInt d1[lo]! x) (b:=!decide (d1[lo]!<d1[i2]!)) rfl c8]
    refine Qax (fun ρ μ ρ' w'=>∃ (ρo:Env) (j2:Nat),ρ'=upd (mix [10,46,47,48,49,50,51,52,53,54,55,56,57,58,59,60,61] ρo ρ) 10 (I6 (j2:Int))∧(j2≤j)∧(Sort.scanDown (fun x=>ltInt d1[lo]! x) d1 i2 j2=Sort.scanDown (fun x=>ltInt d1[lo]! x) d1 i2 (j))∧μ=2*j2∧Own w S w' [row (.slice a N c) (d1.toList.map (ic .u16)) 31 1]) ?_ ?_
    ·exact ⟨_,_,j,Qah (Qam (ds:=[10,46,47,48,49,50,51,52,53,54,55,56,57,58,59,60,61]) (Agr.refl _ _)) rfl,(Nat.le_refl _),rfl,rfl,hs⟩
    ·rintro μ ρ' w9 ⟨ρo,j2,rfl,hj2b,hsd,rfl,hs⟩
     refine Qag (Qag (QaC HM [some 46,some 47,some 48,some 49,some 50,some 51,some 52,some 53,some 54,some 55,some 56,some 57,some 58,some 59] [] [0,0,3,7,15,15,63,127,15,15,783,1807,4095,8191] [pv (I6 (i2:Int)),pv (I6 (j2:Int)),pv (.bool (decide ((i2:Int)≤(j2:Int)))),pv (.bool (decide ((i2:Int)≤(j2:Int)))),pg ((decide ((i2:Int)≤(j2:Int))) == true) (.slice a N c),pg ((decide ((i2:Int)≤(j2:Int))) == true) (I6 (lo:Int)),pg ((decide ((i2:Int)≤(j2:Int))) == true) (.pointer (some ⟨bkS (.slice a N c),ofS (.slice a N c)+(lo:Int).toNat*1,none⟩)),pg ((decide ((i2:Int)≤(j2:Int))) == true) (I7 (d1[lo]!)),pg ((decide ((i2:Int)≤(j2:Int))) == true) (.slice a N c),pg ((decide ((i2:Int)≤(j2:Int))) == true) (I6 (j2:Int)),pg ((decide ((i2:Int)≤(j2:Int))) == true) (.pointer (some ⟨bkS (.slice a N c),ofS (.slice a N c)+(j2:Int).toNat*1,none⟩)),pg ((decide ((i2:Int)≤(j2:Int))) == true) (I7 (d1[j2]!)),pg ((decide ((i2:Int)≤(j2:Int))) == true) (.bool (decide (d1[lo]!<d1[j2]!))),pv (.bool ((decide ((i2:Int)≤(j2:Int)))&&(decide (d1[lo]!<d1[j2]!))))] (fun _ _=>_) [13] (by kernel_rfl) hs ⟨?_,?_,?_,?_,?_,?_,?_,?_,?_,?_,?_,?_,?_,?_,trivial⟩ ?_))
     ·exact ob [] [] rfl rfl fun D ρ w hs=>Qac (V:=I6 (i2:Int)) rfl ⟨rfl,hs⟩
     ·exact ob [] [] rfl rfl fun D ρ w hs=>Qac (V:=I6 (j2:Int)) rfl ⟨rfl,hs⟩
     ·exact ob [0,1] [] rfl rfl fun D ρ w hs=>Qd9 rfl rfl ⟨rfl,hs⟩
     ·exact ob [2] [] rfl rfl fun D ρ w hs=>Qac (V:=.bool (decide ((i2:Int)≤(j2:Int)))) rfl ⟨rfl,hs⟩
     ·refine obg [3] [] (decide ((i2:Int)≤(j2:Int))) rfl (fun _=>rfl) rfl (fun _ _ _ _ h=>h) fun D ρ w hG hs=>?_
      have hgd:=QQ1 (eq_of_beq hG)
      exact Qac (V:=.slice a N c) rfl ⟨rfl,hs⟩
     ·refine obg [3] [] (decide ((i2:Int)≤(j2:Int))) rfl (fun _=>rfl) rfl (fun _ _ _ _ h=>h) fun D ρ w hG hs=>?_
      have hgd:=QQ1 (eq_of_beq hG)
      exact Qac (V:=.int .i64 (lo:Int)) rfl ⟨rfl,hs⟩
     ·refine obgy [3,4,5] [] [4,5] (decide ((i2:Int)≤(j2:Int))) rfl (fun _=>rfl) rfl (fun _ _ _ _ h=>h) (fun hG=>⟨hG,hG,trivial⟩) fun D ρ w hG hs=>?_
      have hgd:=QQ1 (eq_of_beq hG)
      exact Qat QaI Qap.1 (hs.rd 0 rfl) rfl rfl (by omega) (by simp only [QQ6,QQ9,QQ5,Go.Sort.size_swp];omega) ⟨rfl,hs⟩
     ·refine obgy [3,6] [] [6] (decide ((i2:Int)≤(j2:Int))) rfl (fun _=>rfl) rfl (fun _ _ _ _ h=>h) (fun hG=>⟨hG,trivial⟩) fun D ρ w hG hs=>?_
      have hgd:=QQ1 (eq_of_beq hG)
      exact QaQ (j:=0) (V:=.int .u16 (d1[lo]!)) lo Qap (hs.rd 0 rfl) (Qbk (by omega)) rfl rfl (by omega) ⟨rfl,hs⟩
     ·refine obg [3] [] (decide ((i2:Int)≤(j2:Int))) rfl (fun _=>rfl) rfl (fun _ _ _ _ h=>h) fun D ρ w hG hs=>?_
      have hgd:=QQ1 (eq_of_beq hG)
      exact Qac (V:=.slice a N c) rfl ⟨rfl,hs⟩
     ·refine obg [3] [] (decide ((i2:Int)≤(j2:Int))) rfl (fun _=>rfl) rfl (fun _ _ _ _ h=>h) fun D ρ w hG hs=>?_
      have hgd:=QQ1 (eq_of_beq hG)
      exact Qac (V:=.int .i64 (j2:Int)) rfl ⟨rfl,hs⟩
     ·refine obgy [3,8,9] [] [8,9] (decide ((i2:Int)≤(j2:Int))) rfl (fun _=>rfl) rfl (fun _ _ _ _ h=>h) (fun hG=>⟨hG,hG,trivial⟩) fun D ρ w hG hs=>?_
      have hgd:=QQ1 (eq_of_beq hG)
      exact Qat QaI Qap.1 (hs.rd 0 rfl) rfl rfl (by omega) (by simp only [QQ6,QQ9,QQ5,Go.Sort.size_swp];omega) ⟨rfl,hs⟩
     ·refine obgy [3,10] [] [10] (decide ((i2:Int)≤(j2:Int))) rfl (fun _=>rfl) rfl (fun _ _ _ _ h=>h) (fun hG=>⟨hG,trivial⟩) fun D ρ w hG hs=>?_
      have hgd:=QQ1 (eq_of_beq hG)
      exact QaQ (j:=0) (V:=.int .u16 (d1[j2]!)) j2 Qap (hs.rd 0 rfl) (Qbk (by omega)) rfl rfl (by omega) ⟨rfl,hs⟩
     ·refine obgy [3,7,11] [] [7,11] (decide ((i2:Int)≤(j2:Int))) rfl (fun _=>rfl) rfl (fun _ _ _ _ h=>h) (fun hG=>⟨hG,hG,trivial⟩) fun D ρ w hG hs=>?_
      have hgd:=QQ1 (eq_of_beq hG)
      exact Qar (vs:=[.int .u16 (d1[lo]!),.int .u16 (d1[j2]!)]) (V:=.bool (decide (d1[lo]!<d1[j2]!))) Qc3 rfl rfl (Qcl _ (d1[lo]!) (d1[j2]!)) hs fun _ hs=>⟨rfl,hs⟩
     ·exact ob [3,12] [] rfl rfl fun D ρ w hs=>Qa3 (h':=decide (d1[lo]!<d1[j2]!)) rfl rfl rfl ⟨rfl,hs⟩
     rintro ρ1 w11 ρ2 hρ hs
     replace hρ:ρ2=upd (mix [46,47,48,49,50,51,52,53,54,55,56,57,58,59] ρ1 _) 59 (.bool ((decide ((i2:Int)≤(j2:Int)))&&(decide (d1[lo]!<d1[j2]!)))):=hρ
     subst hρ
     refine Qal (t:=(decide ((i2:Int)≤(j2:Int)))&&(decide (d1[lo]!<d1[j2]!))) rfl (fun c12=>?_) (fun c12=>?_)
     ·
      have c12r:=Qcd c12
      replace c12:=QbQ c12
      replace c12:=QQ1 c12
      replace c12r:=QQ1 c12r
      refine Qan (Qak (Qab (Qaa (Qac (V:=I6 (j2:Int)) rfl (Qaa (Qa4 (a:=(j2:Int)) (b:=1) (c:=((j2-1:Nat):Int)) rfl rfl (Qaj (by omega) (by omega)) (Qaa (Qad (V:=I6 ((j2-1:Nat):Int)) rfl (Qae ?_)))))))))
      refine ⟨_,?_,_,j2-1,Qah (Qam (ds:=[10,46,47,48,49,50,51,52,53,54,55,56,57,58,59,60,61]) (by repeat (first|exact Agr.refl _ _|refine Agr.upd ?_ rfl|refine Agr.mix ?_ rfl))) rfl,(by omega),(by rw [← hsd,QlW (p:=fun x=>ltInt d1[lo]! x) (b:=decide (d1[lo]!<d1[j2]!)) (by omega) rfl c12 (QQ3 c12r)]),rfl,hs.take 1⟩
      omega
     ·
      refine Qaz (Qag (Qag ?_))
      have hj2:j2=Sort.scanDown (fun x=>ltInt d1[lo]! x) d1 i2 j:=by rw [← hsd,Qpq (p:=fun x=>ltInt d1[lo]! x) (b:=decide (d1[lo]!<d1[j2]!)) rfl c12]
      refine Qab (Qaa (Qac (V:=I6 (i2:Int)) rfl (Qaa (Qac (V:=I6 (j2:Int)) rfl (Qaa (Qcb rfl rfl (Qae (Qal (t:=decide ((j2:Int)<(i2:Int))) rfl (fun c13=>?_) (fun c13=>?_)))))))))
      ·
       replace c13:=QQ1 c13
       refine Qaz (Qag (Qab (Qaa (Qac (V:=I6 (i2:Int)) rfl (Qaa (Qad (V:=I6 (i2:Int)) rfl (Qae (Qas ?_))))))))
       refine ⟨_,Qao (V:=I6 (i2:Int)) Tryz.results136 rfl,?_⟩
       have hX:Sort.partitionEqual ltInt d lo hi pvx=(i2,d1):=by rw [← hev,Qqu hi2 hj2 c13]
       rw [hX]
       exact ⟨(),rfl,hs.take 1,hz1⟩
      ·
       replace c13:=QQ2 c13
       refine Qan (Qag (QaC HM [some 65,some 66,some 67,some 68,some 69,some 70,some 71,some 72,some 73,some 74,some 75,some 76,some 77,none,some 78,none] [] [0,0,0,0,0,0,48,112,0,0,768,1792,4083,8179,16383,32767] [pv (.slice a N c),pv (I6 (i2:Int)),pv (.slice a N c),pv (I6 (j2:Int)),pv (.slice a N c),pv (I6 (j2:Int)),pv (.pointer (some ⟨bkS (.slice a N c),ofS (.slice a N c)+(j2:Int).toNat*1,none⟩)),pv (I7 (d1[j2]!)),pv (.slice a N c),pv (I6 (i2:Int)),pv (.pointer (some ⟨bkS (.slice a N c),ofS (.slice a N c)+(i2:Int).toNat*1,none⟩)),pv (I7 (d1[i2]!)),pv (.pointer (some ⟨bkS (.slice a N c),ofS (.slice a N c)+(i2:Int).toNat*1,none⟩)),pn,pv (.pointer (some ⟨bkS (.slice a N c),ofS (.slice a N c)+(j2:Int).toNat*1,none⟩)),pn] (fun D ρ=>[cond (D 15) (row (.slice a N c) ((((d1.setIfInBounds i2 (d1[j2]!)).setIfInBounds j2 (d1[i2]!)).toList).map (ic .u16)) 31 1) (cond (D 13) (row (.slice a N c) (((d1.setIfInBounds i2 (d1[j2]!)).toList).map (ic .u16)) 31 1) (row (.slice a N c) (d1.toList.map (ic .u16)) 31 1))]) [] (by kernel_rfl) hs ⟨?_,?_,?_,?_,?_,?_,?_,?_,?_,?_,?_,?_,?_,?_,?_,?_,trivial⟩ ?_))
       ·exact ob [] [] rfl rfl fun D ρ w hs=>Qac (V:=.slice a N c) rfl ⟨rfl,hs⟩
       ·exact ob [] [] rfl rfl fun D ρ w hs=>Qac (V:=I6 (i2:Int)) rfl ⟨rfl,hs⟩
       ·exact ob [] [] rfl rfl fun D ρ w hs=>Qac (V:=.slice a N c) rfl ⟨rfl,hs⟩
       ·exact ob [] [] rfl rfl fun D ρ w hs=>Qac (V:=I6 (j2:Int)) rfl ⟨rfl,hs⟩
       ·exact ob [] [] rfl rfl fun D ρ w hs=>Qac (V:=.slice a N c) rfl ⟨rfl,hs⟩
       ·exact ob [] [] rfl rfl fun D ρ w hs=>Qac (V:=I6 (j2:Int)) rfl ⟨rfl,hs⟩
       ·exact ob [4,5] [13,15] rfl rfl fun D ρ w hs=>Qat QaI Qap.1 (hs.rd 0 rfl) rfl rfl (by omega) (by simp only [QQ6,QQ9,QQ5,Go.Sort.size_swp];omega) ⟨rfl,hs⟩
       ·exact ob [6] [13,15] rfl rfl fun D ρ w hs=>QaQ (j:=0) (V:=I7 (d1[j2]!)) j2 Qap (hs.rd 0 rfl) (Qbk (by omega)) rfl rfl (by omega) ⟨rfl,hs⟩
       ·exact ob [] [] rfl rfl fun D ρ w hs=>Qac (V:=.slice a N c) rfl ⟨rfl,hs⟩
       ·exact ob [] [] rfl rfl fun D ρ w hs=>Qac (V:=I6 (i2:Int)) rfl ⟨rfl,hs⟩
       ·exact ob [8,9] [13,15] rfl rfl fun D ρ w hs=>Qat QaI Qap.1 (hs.rd 0 rfl) rfl rfl (by omega) (by simp only [QQ6,QQ9,QQ5,Go.Sort.size_swp];omega) ⟨rfl,hs⟩
       ·exact ob [10] [13,15] rfl rfl fun D ρ w hs=>QaQ (j:=0) (V:=I7 (d1[i2]!)) i2 Qap (hs.rd 0 rfl) (Qbk (by omega)) rfl rfl (by omega) ⟨rfl,hs⟩
       ·exact ob [0,1] [13,15] rfl rfl fun D ρ w hs=>Qat QaI Qap.1 (hs.rd 0 rfl) rfl rfl (by omega) (by simp only [QQ6,QQ9,QQ5,Go.Sort.size_swp];omega) ⟨rfl,hs⟩
       ·exact ob [7,12] [15] rfl rfl fun D ρ w hs=>Qcf (z:=d1[j2]!) i2 Qap hs 0 rfl rfl (by omega) (by first|omega|(simp only [QQ5,Go.Sort.size_swp];omega)) rfl rfl rfl fun _ hs=>⟨trivial,hs⟩
       ·exact ob [2,3,13] [15] rfl rfl fun D ρ w hs=>Qat QaI Qap.1 (hs.rd 0 rfl) rfl rfl (by omega) (by simp only [QQ6,QQ9,QQ5,Go.Sort.size_swp];omega) ⟨rfl,hs⟩
       ·exact ob [11,13,14] [] rfl rfl fun D ρ w hs=>Qcf (z:=d1[i2]!) j2 Qap hs 0 rfl rfl (by omega) (by first|omega|(simp only [QQ5,Go.Sort.size_swp];omega)) rfl rfl rfl fun _ hs=>⟨trivial,hs⟩
       rintro ρ1 w16 ρ2 hρ hs
       replace hρ:ρ2=mix [65,66,67,68,69,70,71,72,73,74,75,76,77,78] ρ1 _:=hρ
       replace hs:Own w S w16 [row (.slice a N c) ((((d1.setIfInBounds i2 (d1[j2]!)).setIfInBounds j2 (d1[i2]!)).toList).map (ic .u16)) 31 1]:=hs
       subst hρ
       refine Qag (Qab (Qaa (Qac (V:=I6 (i2:Int)) rfl (Qaa (Qav (a:=(i2:Int)) (b:=1) (c:=((i2+1:Nat):Int)) rfl rfl (Qaj (by omega) (by omega)) (Qaa (Qad (V:=I6 ((i2+1:Nat):Int)) rfl (Qae (Qab (Qaa (Qac (V:=I6 (j2:Int)) rfl (Qaa (Qa4 (a:=(j2:Int)) (b:=1) (c:=((j2-1:Nat):Int)) rfl rfl (Qaj (by omega) (by omega)) (Qaa (Qad (V:=I6 ((j2-1:Nat):Int)) rfl (Qae ?_))))))))))))))))
       refine ⟨_,?_,_,i2+1,j2-1,((d1.setIfInBounds i2 (d1[j2]!)).setIfInBounds j2 (d1[i2]!)),Qah (Qah (Qam (ds:=[9,10,29,30,31,32,33,34,35,36,37,38,39,40,41,42,43,44,45,46,47,48,49,50,51,52,53,54,55,56,57,58,59,60,61,62,63,64,65,66,67,68,69,70,71,72,73,74,75,76,77,78,79,80,81,82]) (by repeat (first|exact Agr.refl _ _|refine Agr.upd ?_ rfl|refine Agr.mix ?_ rfl))) rfl) rfl,(by omega),(by omega),(by omega),(by simp only [QQ5];exact hz1),(by rw [← hev,Qtd hi2 hj2 c13];rfl),rfl,hs.take 1⟩
       omega
end Tt
end Go.Proofs
