/- A part of a proof: what functions of the program compute, and plain facts on that. -/
import Derived.Test.YtbjbjboehjdcaaaGreatCutsIdleP7
set_option linter.unusedVariables false
set_option linter.unusedSimpArgs false
set_option maxHeartbeats 4000000
set_option maxRecDepth 100000
namespace Go.Proofs
open Go Go.Vx Go.RowKit
open Go.Sort (ltInt medianAdjacent order2 partition)
namespace Tt
section
variable {lo hi i s:Nat} {d:Array Int}
theorem QsC (h:(i:Int)<(hi:Int)) (h2:¬d[i]!<d[i-1]!):Sort.scanSorted ltInt d hi i=Sort.scanSorted ltInt d hi (i+1):=by
 rw [Sort.scanSorted,if_pos]
 simp only [Bool.and_eq_true,decide_eq_true_eq,Bool.not_eq_true',ltInt,decide_eq_false_iff_not];exact ⟨by omega,h2⟩
theorem Quw (h:(decide ((i:Int)<(hi:Int))&&!decide (d[i]!<d[i-1]!))=false):Sort.scanSorted ltInt d hi i=i:=by
 rw [Sort.scanSorted,if_neg]
 intro h2
 simp only [Bool.and_eq_true,decide_eq_true_eq,Bool.not_eq_true',ltInt,decide_eq_false_iff_not] at h2
 simp only [Bool.and_eq_false_iff,decide_eq_false_iff_not,Bool.not_eq_false',decide_eq_true_eq] at h
 rcases h with h|h
 ·exact h (by omega)
 exact h2.2 h
theorem Qs1 (h:1<=(i:Int)) (h2:d[i]!<d[i-1]!):Sort.shiftDown ltInt i d=Sort.shiftDown ltInt (i-1) (Sort.swp d i (i-1)):=by
 obtain ⟨j,rfl⟩:∃ j,i=j+1:=⟨i-1,by omega⟩
 rw [Nat.add_sub_cancel] at *
 rw [Sort.shiftDown,if_neg (by simp [ltInt,h2])]
theorem QuI (h2:¬d[i]!<d[i-1]!):Sort.shiftDown ltInt i d=d:=by
 cases i with
 | zero=>rfl
 | succ j=>rw [Nat.add_sub_cancel] at h2;rw [Sort.shiftDown,if_pos (by simpa [ltInt] using h2)]
theorem QvI (h:¬1<=(i:Int)):Sort.shiftDown ltInt i d=d:=by
 have:i=0:=by omega
 subst this;rfl
theorem QtM (h:(i:Int)<(hi:Int)) (h2:d[i]!<d[i-1]!):Sort.shiftUp ltInt hi i d=Sort.shiftUp ltInt hi (i+1) (Sort.swp d i (i-1)):=by
 rw [Sort.shiftUp,if_pos (by omega),if_neg (by simp [ltInt,h2])]
theorem QuB (h:(i:Int)<(hi:Int)) (h2:¬d[i]!<d[i-1]!):Sort.shiftUp ltInt hi i d=d:=by
 rw [Sort.shiftUp,if_pos (by omega),if_pos (by simpa [ltInt] using h2)]
theorem QvD (h:¬(i:Int)<(hi:Int)):Sort.shiftUp ltInt hi i d=d:=by rw [Sort.shiftUp,if_neg (by omega)]
def dnI (lo i:Nat) (d:Array Int):Array Int:=if i-lo ≥ 2 then Sort.shiftDown ltInt (i-1) d else d
def upI (hi i:Nat) (d:Array Int):Array Int:=if hi-i ≥ 2 then Sort.shiftUp ltInt hi (i+1) d else d
theorem QiP {q i2:Nat} (hq:q<5) (h2:i2=Sort.scanSorted ltInt d hi i):Sort.partialIns ltInt lo hi (5-q) i d=if i2=hi then (d,true) else if hi-lo<50 then (d,false) else Sort.partialIns ltInt lo hi (5-(q+1)) i2 (upI hi i2 (dnI lo i2 (Sort.swp d i2 (i2-1)))):=by
 obtain ⟨s,hs⟩:∃ s,5-q=s+1:=⟨5-q-1,by omega⟩
 rw [hs,show 5-(q+1)=s by omega,h2]
 rfl
end
theorem Qqd (w:World) (S:Nat->Prop) (a:Option Addr) (N c:Nat) (d:Array Int) (hsz:d.size=N) (hN:N<=2305843009213693951) (lo hi:Nat) (h1:lo<hi) (h2:hi<=N) (hR:(row (.slice a N c) (d.toList.map (ic .u16)) 32 1).holds w S) (hlt:∀ x,S x->x<w.heap.size):Calls Tryz.prog 177 #[.slice a N c,.int .i64 (lo:Int),.int .i64 (hi:Int)] w (fun e w'=>∃ _u:Unit,e = .returned (.bool (Sort.partialInsertionSort ltInt d lo hi).2)/\Own w S w' [row (.slice a N c) (((Sort.partialInsertionSort ltInt d lo hi).1).toList.map (ic .u16)) 32 1]/\(Sort.partialInsertionSort ltInt d lo hi).1.size=N):=by
 refine Qai (n:=133) Tryz.func177 rfl Tryz.ntmps177 rfl ?_
 have hs:=Own.lent hR hlt
 refine Qag (Qab (Qaa (Qad (V:=.bool false) rfl (Qae (Qag (Qab (Qaa (Qac (V:=I6 (lo:Int)) rfl (Qaa (QaD (a:=(lo:Int)) (b:=1) (c:=((lo+1:Nat):Int)) rfl rfl (Qaj (by omega) (by omega)) (Qaa (Qad (V:=I6 ((lo+1:Nat):Int)) rfl (Qae (Qag (Qag (Qab (Qaa (Qad (V:=I6 0) rfl (Qae (Qan (QaC (fun J μ J' w'=>∃ (Jo:Env) (q:Nat) (i:Nat) (d1:Array Int),J'=upd (upd (mix ([6,7,8,9,10]++sq 13 120) Jo J) 8 (I6 (q:Int))) 7 (I6 (i:Int))/\(q<=5)/\(lo+1<=i)/\(i<=hi)/\(d1.size=N)/\(Sort.partialIns ltInt lo hi (5-q) i d1=Sort.partialInsertionSort ltInt d lo hi)/\μ=5-q/\Own w S w' [row (.slice a N c) (d1.toList.map (ic .u16)) 32 1]) ?_ ?_)))))))))))))))))))))
 ·exact ⟨_,_,0,lo+1,d,Qak (Qak (Qao (ds:=([6,7,8,9,10]++sq 13 120)) (Agr.refl _ _)) rfl) rfl,(by omega),(by omega),(by omega),hsz,rfl,rfl,hs⟩
 rintro μ J' w1 ⟨Jo,q,i,d1,rfl,hq,hi0,hi1,hz1,hev,rfl,hs⟩
 refine Qag (Qag (Qab (Qaa (Qac (V:=I6 (q:Int)) rfl (Qaa (Qa2 rfl rfl (Qae (Qam (t:=decide ((q:Int)<5)) rfl (fun c2=>?_) (fun c2=>?_)))))))))
 ·
  replace c2:=QQ1 c2
  refine Qap (Qag (Qan (Qag (Qan (QaC (fun J μ J' w'=>∃ (Jo:Env) (i2:Nat),J'=upd (mix ([7]++sq 17 18) Jo J) 7 (I6 (i2:Int))/\(i<=i2)/\(i2<=hi)/\(Sort.scanSorted ltInt d1 hi i2=Sort.scanSorted ltInt d1 hi i)/\μ=hi-i2/\Own w S w' [row (.slice a N c) (d1.toList.map (ic .u16)) 32 1]) ?_ ?_)))))
  ·exact ⟨_,_,i,Qak (Qao (ds:=([7]++sq 17 18)) (Agr.refl _ _)) rfl,(Nat.le_refl _),hi1,rfl,rfl,hs⟩
  rintro μ J' w3 ⟨Jo,i2,rfl,hi2a,hi2b,hsc,rfl,hs⟩
  refine Qag (Qag (QaH HM [some 17,some 18,some 19,some 20,some 21,some 22,some 23,some 24,some 25,some 26,some 27,some 28,some 29,some 30,some 31,some 32] [] [0,0,3,7,15,15,63,127,15,15,527,1807,3855,8191,16383,32767] [pv (I6 (i2:Int)),pv (I6 (hi:Int)),pv (.bool (decide ((i2:Int)<(hi:Int)))),pv (.bool (decide ((i2:Int)<(hi:Int)))),pg ((decide ((i2:Int)<(hi:Int))) == true) (.slice a N c),pg ((decide ((i2:Int)<(hi:Int))) == true) (I6 (i2:Int)),pg ((decide ((i2:Int)<(hi:Int))) == true) (.pointer (some ⟨bkS (.slice a N c),ofS (.slice a N c)+(i2:Int).toNat*1,none⟩)),pg ((decide ((i2:Int)<(hi:Int))) == true) (I7 (d1[i2]!)),pg ((decide ((i2:Int)<(hi:Int))) == true) (.slice a N c),pg ((decide ((i2:Int)<(hi:Int))) == true) (I6 (i2:Int)),pg ((decide ((i2:Int)<(hi:Int))) == true) (I6 ((i2-1:Nat):Int)),pg ((decide ((i2:Int)<(hi:Int))) == true) (.pointer (some ⟨bkS (.slice a N c),ofS (.slice a N c)+((i2-1:Nat):Int).toNat*1,none⟩)),pg ((decide ((i2:Int)<(hi:Int))) == true) (I7 (d1[i2-1]!)),pg ((decide ((i2:Int)<(hi:Int))) == true) (.bool (decide (d1[i2]!<d1[i2-1]!))),pg ((decide ((i2:Int)<(hi:Int))) == true) (.bool (!decide (d1[i2]!<d1[i2-1]!))),pv (.bool ((decide ((i2:Int)<(hi:Int)))&&(!decide (d1[i2]!<d1[i2-1]!))))] (fun _ _=>_) [15] (by kernel_rfl) hs ⟨?_,?_,?_,?_,?_,?_,?_,?_,?_,?_,?_,?_,?_,?_,?_,?_,trivial⟩ ?_))
  ·exact oa [] fun D J w hs=>Qac (V:=.int .i64 (i2:Int)) rfl (Zz hs)
  ·exact oa [] fun D J w hs=>Qac (V:=.int .i64 (hi:Int)) rfl (Zz hs)
  ·exact oa [0,1] fun D J w hs=>Qa2 rfl rfl (Zz hs)
  ·exact oa [2] fun D J w hs=>Qac (V:=.bool (decide ((i2:Int)<(hi:Int)))) rfl (Zz hs)
  ·refine og [3] fun D J w hG hs=>?_
   have hgd:=QQ1 (eq_of_beq hG)
   exact Qac (V:=.slice a N c) rfl (Zz hs)
  ·refine og [3] fun D J w hG hs=>?_
   have hgd:=QQ1 (eq_of_beq hG)
   exact Qac (V:=.int .i64 (i2:Int)) rfl (Zz hs)
  ·refine oy [3,4,5] [4,5] fun D J w hG hs=>?_
   have hgd:=QQ1 (eq_of_beq hG)
   exact Qaw QaK Qar.1 (hs.rd 0 rfl) rfl rfl (by omega) (by simp only [QQ6,QQ9,QQ5,Go.Sort.size_swp];omega) (Zz hs)
  ·refine oy [3,6] [6] fun D J w hG hs=>?_
   have hgd:=QQ1 (eq_of_beq hG)
   exact QaU (j:=0) (V:=.int .u16 (d1[i2]!)) i2 Qar (hs.rd 0 rfl) (Qbk (by omega)) rfl rfl (by omega) (Zz hs)
  ·refine og [3] fun D J w hG hs=>?_
   have hgd:=QQ1 (eq_of_beq hG)
   exact Qac (V:=.slice a N c) rfl (Zz hs)
  ·refine og [3] fun D J w hG hs=>?_
   have hgd:=QQ1 (eq_of_beq hG)
   exact Qac (V:=.int .i64 (i2:Int)) rfl (Zz hs)
  ·refine oy [3,9] [9] fun D J w hG hs=>?_
   have hgd:=QQ1 (eq_of_beq hG)
   exact Qa3 (a:=(i2:Int)) (b:=1) (c:=((i2-1:Nat):Int)) rfl rfl (Qaj (by omega) (by omega)) (Zz hs)
  ·refine oy [3,8,10] [8,10] fun D J w hG hs=>?_
   have hgd:=QQ1 (eq_of_beq hG)
   exact Qaw QaK Qar.1 (hs.rd 0 rfl) rfl rfl (by omega) (by simp only [QQ6,QQ9,QQ5,Go.Sort.size_swp];omega) (Zz hs)
  ·refine oy [3,11] [11] fun D J w hG hs=>?_
   have hgd:=QQ1 (eq_of_beq hG)
   exact QaU (j:=0) (V:=.int .u16 (d1[i2-1]!)) (i2-1) Qar (hs.rd 0 rfl) (Qbk (by omega)) rfl rfl (by omega) (Zz hs)
  ·refine oy [3,7,12] [7,12] fun D J w hG hs=>?_
   have hgd:=QQ1 (eq_of_beq hG)
   exact Qas (vs:=[.int .u16 (d1[i2]!),.int .u16 (d1[i2-1]!)]) (V:=.bool (decide (d1[i2]!<d1[i2-1]!))) Qc0 rfl rfl (Qcl _ (d1[i2]!) (d1[i2-1]!)) hs fun _ hs=>Zz hs
  ·refine oy [3,13] [13] fun D J w hG hs=>?_
   have hgd:=QQ1 (eq_of_beq hG)
   exact Qbx rfl (Zz hs)
  ·exact oa [3,14] fun D J w hs=>Qbg (h':=!decide (d1[i2]!<d1[i2-1]!)) rfl rfl rfl (Zz hs)
  rintro J1 w5 J2 hJ hs
  replace hJ:J2=upd (mix (sq 17 16) J1 _) 32 (.bool ((decide ((i2:Int)<(hi:Int)))&&(!decide (d1[i2]!<d1[i2-1]!)))):=hJ
  subst hJ
  refine Qam (t:=(decide ((i2:Int)<(hi:Int)))&&(!decide (d1[i2]!<d1[i2-1]!))) rfl (fun c6=>?_) (fun c6=>?_)
  ·
   have c6r:=Qcs c6
   replace c6:=QbY c6
   replace c6:=QQ1 c6
   replace c6r:=Qby c6r
   replace c6r:=QQ2 c6r
   refine Qap (Qan (Qab (Qaa (Qac (V:=I6 (i2:Int)) rfl (Qaa (QaD (a:=(i2:Int)) (b:=1) (c:=((i2+1:Nat):Int)) rfl rfl (Qaj (by omega) (by omega)) (Qaa (Qad (V:=I6 ((i2+1:Nat):Int)) rfl (Qae ?_)))))))))
   refine ⟨_,?_,_,i2+1,Qak (Qao (ds:=([7]++sq 17 18)) (by repeat (first|exact Agr.refl _ _|refine Agr.upd ?_ rfl|refine Agr.mix ?_ rfl))) rfl,(by omega),(by omega),(by rw [← hsc,QsC c6 c6r]),rfl,hs.take 1⟩
   omega
  refine QaJ (Qag (Qag ?_))
  have hi2e:i2=Sort.scanSorted ltInt d1 hi i:=by rw [← hsc,Quw c6]
  refine Qab (Qaa (Qac (V:=I6 (i2:Int)) rfl (Qaa (Qac (V:=I6 (hi:Int)) rfl (Qaa (QaW rfl rfl (Qae (Qam (t:=decide ((i2:Int)=(hi:Int))) rfl (fun c7=>?_) (fun c7=>?_)))))))))
  ·
   replace c7:=QQ1 c7
   refine Qag (Qab (Qaa (Qad (V:=.bool true) rfl (Qae (Qav ?_)))))
   refine ⟨_,Qaq (V:=.bool true) Tryz.results177 rfl,?_⟩
   have hX:Sort.partialInsertionSort ltInt d lo hi=(d1,true):=by rw [← hev,QiP (q:=q) (by omega) hi2e,if_pos (by omega)]
   rw [hX]
   exact ⟨(),rfl,hs.take 1,hz1⟩
  replace c7:=QQ2 c7
  refine Qap (Qag (Qag (Qab (Qaa (Qac (V:=I6 (hi:Int)) rfl (Qaa (Qac (V:=I6 (lo:Int)) rfl (Qaa (Qa3 (a:=(hi:Int)) (b:=(lo:Int)) (c:=((hi-lo:Nat):Int)) rfl rfl (Qaj (by omega) (by omega)) (Qaa (Qa2 rfl rfl (Qae (Qam (t:=decide (((hi-lo:Nat):Int)<50)) rfl (fun c8=>?_) (fun c8=>?_))))))))))))))
  ·
   replace c8:=QQ1 c8
   refine Qag (Qab (Qaa (Qad (V:=.bool false) rfl (Qae (Qav ?_)))))
   refine ⟨_,Qaq (V:=.bool false) Tryz.results177 rfl,?_⟩
   have hX:Sort.partialInsertionSort ltInt d lo hi=(d1,false):=by rw [← hev,QiP (q:=q) (by omega) hi2e,if_neg (by omega),if_pos (by omega)]
   rw [hX]
   exact ⟨(),rfl,hs.take 1,hz1⟩
  replace c8:=QQ2 c8
  refine Qap (Qag (QaH HM [some 42,some 43,some 44,some 45,some 46,some 47,some 48,some 49,some 50,some 51,some 52,some 53,some 54,some 55,some 56,none,some 57,none] [] [0,0,0,0,8,0,0,64,224,480,0,0,3072,7168,16355,32739,65535,131071] [pv (.slice a N c),pv (I6 (i2:Int)),pv (.slice a N c),pv (I6 (i2:Int)),pv (I6 ((i2-1:Nat):Int)),pv (.slice a N c),pv (I6 (i2:Int)),pv (I6 ((i2-1:Nat):Int)),pv (.pointer (some ⟨bkS (.slice a N c),ofS (.slice a N c)+((i2-1:Nat):Int).toNat*1,none⟩)),pv (I7 (d1[i2-1]!)),pv (.slice a N c),pv (I6 (i2:Int)),pv (.pointer (some ⟨bkS (.slice a N c),ofS (.slice a N c)+(i2:Int).toNat*1,none⟩)),pv (I7 (d1[i2]!)),pv (.pointer (some ⟨bkS (.slice a N c),ofS (.slice a N c)+(i2:Int).toNat*1,none⟩)),pn,pv (.pointer (some ⟨bkS (.slice a N c),ofS (.slice a N c)+((i2-1:Nat):Int).toNat*1,none⟩)),pn] (fun D J=>[cond (D 17) (row (.slice a N c) ((((d1.setIfInBounds i2 (d1[i2-1]!)).setIfInBounds (i2-1) (d1[i2]!)).toList).map (ic .u16)) 32 1) (cond (D 15) (row (.slice a N c) (((d1.setIfInBounds i2 (d1[i2-1]!)).toList).map (ic .u16)) 32 1) (row (.slice a N c) (d1.toList.map (ic .u16)) 32 1))]) [] (by kernel_rfl) hs ⟨?_,?_,?_,?_,?_,?_,?_,?_,?_,?_,?_,?_,?_,?_,?_,?_,?_,?_,trivial⟩ ?_))
  ·exact oa [] fun D J w hs=>Qac (V:=.slice a N c) rfl (Zz hs)
  ·exact oa [] fun D J w hs=>Qac (V:=.int .i64 (i2:Int)) rfl (Zz hs)
  ·exact oa [] fun D J w hs=>Qac (V:=.slice a N c) rfl (Zz hs)
  ·exact oa [] fun D J w hs=>Qac (V:=.int .i64 (i2:Int)) rfl (Zz hs)
  ·exact oa [3] fun D J w hs=>Qa3 (a:=(i2:Int)) (b:=1) (c:=((i2-1:Nat):Int)) rfl rfl (Qaj (by omega) (by omega)) (Zz hs)
  ·exact oa [] fun D J w hs=>Qac (V:=.slice a N c) rfl (Zz hs)
  ·exact oa [] fun D J w hs=>Qac (V:=.int .i64 (i2:Int)) rfl (Zz hs)
  ·exact oa [6] fun D J w hs=>Qa3 (a:=(i2:Int)) (b:=1) (c:=((i2-1:Nat):Int)) rfl rfl (Qaj (by omega) (by omega)) (Zz hs)
  ·exact ob [5,7] [15,17] rfl rfl fun D J w hs=>Qaw QaK Qar.1 (hs.rd 0 rfl) rfl rfl (by omega) (by simp only [QQ6,QQ9,QQ5,Go.Sort.size_swp];omega) (Zz hs)
  ·exact ob [8] [15,17] rfl rfl fun D J w hs=>QaU (j:=0) (V:=I7 (d1[i2-1]!)) (i2-1) Qar (hs.rd 0 rfl) (Qbk (by omega)) rfl rfl (by omega) (Zz hs)
  ·exact oa [] fun D J w hs=>Qac (V:=.slice a N c) rfl (Zz hs)
  ·exact oa [] fun D J w hs=>Qac (V:=.int .i64 (i2:Int)) rfl (Zz hs)
  ·exact ob [10,11] [15,17] rfl rfl fun D J w hs=>Qaw QaK Qar.1 (hs.rd 0 rfl) rfl rfl (by omega) (by simp only [QQ6,QQ9,QQ5,Go.Sort.size_swp];omega) (Zz hs)
  ·exact ob [12] [15,17] rfl rfl fun D J w hs=>QaU (j:=0) (V:=I7 (d1[i2]!)) i2 Qar (hs.rd 0 rfl) (Qbk (by omega)) rfl rfl (by omega) (Zz hs)
  ·exact ob [0,1] [15,17] rfl rfl fun D J w hs=>Qaw QaK Qar.1 (hs.rd 0 rfl) rfl rfl (by omega) (by simp only [QQ6,QQ9,QQ5,Go.Sort.size_swp];omega) (Zz hs)
  ·exact ob [9,14] [17] rfl rfl fun D J w hs=>Qcj (z:=d1[i2-1]!) i2 Qar hs 0 rfl rfl (by omega) (by first|omega|(simp only [QQ5,Go.Sort.size_swp];omega)) rfl rfl rfl fun _ hs=>⟨trivial,hs⟩
  ·exact ob [2,4,15] [17] rfl rfl fun D J w hs=>Qaw QaK Qar.1 (hs.rd 0 rfl) rfl rfl (by omega) (by simp only [QQ6,QQ9,QQ5,Go.Sort.size_swp];omega) (Zz hs)
  ·exact oa [13,15,16] fun D J w hs=>Qcj (z:=d1[i2]!) (i2-1) Qar hs 0 rfl rfl (by omega) (by first|omega|(simp only [QQ5,Go.Sort.size_swp];omega)) rfl rfl rfl fun _ hs=>⟨trivial,hs⟩
  rintro J1 w11 J2 hJ hs
  replace hJ:J2=mix (sq 42 16) J1 _:=hJ
  replace hs:Own w S w11 [row (.slice a N c) ((((d1.setIfInBounds i2 (d1[i2-1]!)).setIfInBounds (i2-1) (d1[i2]!)).toList).map (ic .u16)) 32 1]:=hs
  subst hJ
  refine Qag (Qag (Qab (Qaa (Qac (V:=I6 (i2:Int)) rfl (Qaa (Qac (V:=I6 (lo:Int)) rfl (Qaa (Qa3 (a:=(i2:Int)) (b:=(lo:Int)) (c:=((i2-lo:Nat):Int)) rfl rfl (Qaj (by omega) (by omega)) (Qaa (QcR rfl rfl (Qae (Qfs (fun J J' w'=>∃ (Jo:Env) (d3:Array Int),J'=mix ([9]++sq 62 33) Jo J/\(d3=dnI lo i2 (Sort.swp d1 i2 (i2-1)))/\(d3.size=N)/\Own w S w' [row (.slice a N c) (d3.toList.map (ic .u16)) 32 1]) ?_ ?_))))))))))))
  ·
   refine Qam (t:=decide (2<=((i2-lo:Nat):Int))) rfl (fun c12=>?_) (fun c12=>?_)
   ·
    replace c12:=QQ1 c12
    refine Qag (Qab (Qaa (Qac (V:=I6 (i2:Int)) rfl (Qaa (Qa3 (a:=(i2:Int)) (b:=1) (c:=((i2-1:Nat):Int)) rfl rfl (Qaj (by omega) (by omega)) (Qaa (Qad (V:=I6 ((i2-1:Nat):Int)) rfl (Qae (Qan (QaC (fun J μ J' w'=>∃ (Jo:Env) (j:Nat) (d4:Array Int),J'=upd (mix ([9]++sq 64 31) Jo J) 9 (I6 (j:Int))/\(j<hi)/\(d4.size=N)/\(Sort.shiftDown ltInt j d4=Sort.shiftDown ltInt (i2-1) (Sort.swp d1 i2 (i2-1)))/\μ=2*j/\Own w S w' [row (.slice a N c) (d4.toList.map (ic .u16)) 32 1]) ?_ ?_))))))))))
    ·exact ⟨_,_,i2-1,((d1.setIfInBounds i2 (d1[i2-1]!)).setIfInBounds (i2-1) (d1[i2]!)),Qak (Qao (ds:=([9]++sq 64 31)) (Agr.refl _ _)) rfl,(by omega),(by simp only [QQ5];exact hz1),rfl,rfl,hs⟩
    rintro μ J' w13 ⟨Jo,j,d4,rfl,hj,hz4,hdn,rfl,hs⟩
    refine Qag (Qag (Qab (Qaa (Qac (V:=I6 (j:Int)) rfl (Qaa (QcR rfl rfl (Qae (Qam (t:=decide (1<=(j:Int))) rfl (fun c14=>?_) (fun c14=>?_)))))))))
    ·
     replace c14:=QQ1 c14
     refine Qap (Qag (Qan (Qag (Qag (QaH HM [some 68,some 69,some 70,some 71,some 72,some 73,some 74,some 75,some 76,some 77,some 78] [] [0,0,3,7,0,0,32,112,240,511,1023] [pv (.slice a N c),pv (I6 (j:Int)),pv (.pointer (some ⟨bkS (.slice a N c),ofS (.slice a N c)+(j:Int).toNat*1,none⟩)),pv (I7 (d4[j]!)),pv (.slice a N c),pv (I6 (j:Int)),pv (I6 ((j-1:Nat):Int)),pv (.pointer (some ⟨bkS (.slice a N c),ofS (.slice a N c)+((j-1:Nat):Int).toNat*1,none⟩)),pv (I7 (d4[j-1]!)),pv (.bool (decide (d4[j]!<d4[j-1]!))),pv (.bool (!decide (d4[j]!<d4[j-1]!)))] (fun _ _=>_) [10] (by kernel_rfl) hs ⟨?_,?_,?_,?_,?_,?_,?_,?_,?_,?_,?_,trivial⟩ ?_)))))
     ·exact oa [] fun D J w hs=>Qac (V:=.slice a N c) rfl (Zz hs)
     ·exact oa [] fun D J w hs=>Qac (V:=.int .i64 (j:Int)) rfl (Zz hs)
     ·exact oa [0,1] fun D J w hs=>Qaw QaK Qar.1 (hs.rd 0 rfl) rfl rfl (by omega) (by simp only [QQ6,QQ9,QQ5,Go.Sort.size_swp];omega) (Zz hs)
     ·exact oa [2] fun D J w hs=>QaU (j:=0) (V:=.int .u16 (d4[j]!)) j Qar (hs.rd 0 rfl) (Qbk (by omega)) rfl rfl (by omega) (Zz hs)
     ·exact oa [] fun D J w hs=>Qac (V:=.slice a N c) rfl (Zz hs)
     ·exact oa [] fun D J w hs=>Qac (V:=.int .i64 (j:Int)) rfl (Zz hs)
     ·exact oa [5] fun D J w hs=>Qa3 (a:=(j:Int)) (b:=1) (c:=((j-1:Nat):Int)) rfl rfl (Qaj (by omega) (by omega)) (Zz hs)
     ·exact oa [4,6] fun D J w hs=>Qaw QaK Qar.1 (hs.rd 0 rfl) rfl rfl (by omega) (by simp only [QQ6,QQ9,QQ5,Go.Sort.size_swp];omega) (Zz hs)
     ·exact oa [7] fun D J w hs=>QaU (j:=0) (V:=.int .u16 (d4[j-1]!)) (j-1) Qar (hs.rd 0 rfl) (Qbk (by omega)) rfl rfl (by omega) (Zz hs)
     ·exact oa [3,8] fun D J w hs=>Qas (vs:=[.int .u16 (d4[j]!),.int .u16 (d4[j-1]!)]) (V:=.bool (decide (d4[j]!<d4[j-1]!))) Qc0 rfl rfl (Qcl _ (d4[j]!) (d4[j-1]!)) hs fun _ hs=>Zz hs
     ·exact oa [9] fun D J w hs=>Qbx rfl (Zz hs)
     rintro J1 w16 J2 hJ hs
     replace hJ:J2=upd (mix (sq 68 11) J1 _) 78 (.bool (!decide (d4[j]!<d4[j-1]!))):=hJ
     subst hJ
     refine Qam (t:=!decide (d4[j]!<d4[j-1]!)) rfl (fun c17=>?_) (fun c17=>?_)
     ·
      replace c17:=Qby c17
      replace c17:=QQ2 c17
      refine QaJ ?_
      exact ⟨_,d4,Qao (ds:=([9]++sq 62 33)) (by repeat (first|exact Agr.refl _ _|refine Agr.upd ?_ rfl|refine Agr.mix ?_ rfl)),(by unfold dnI;rw [if_pos (by omega),← hdn,QuI c17]),hz4,hs.take 1⟩
     replace c17:=Qbr c17
     replace c17:=QQ1 c17
     refine Qap (QaH HM [some 79,some 80,some 81,some 82,some 83,some 84,some 85,some 86,some 87,some 88,some 89,some 90,some 91,some 92,some 93,none,some 94,none] [] [0,0,0,0,8,0,0,64,224,480,0,0,3072,7168,16355,32739,65535,131071] [pv (.slice a N c),pv (I6 (j:Int)),pv (.slice a N c),pv (I6 (j:Int)),pv (I6 ((j-1:Nat):Int)),pv (.slice a N c),pv (I6 (j:Int)),pv (I6 ((j-1:Nat):Int)),pv (.pointer (some ⟨bkS (.slice a N c),ofS (.slice a N c)+((j-1:Nat):Int).toNat*1,none⟩)),pv (I7 (d4[j-1]!)),pv (.slice a N c),pv (I6 (j:Int)),pv (.pointer (some ⟨bkS (.slice a N c),ofS (.slice a N c)+(j:Int).toNat*1,none⟩)),pv (I7 (d4[j]!)),pv (.pointer (some ⟨bkS (.slice a N c),ofS (.slice a N c)+(j:Int).toNat*1,none⟩)),pn,pv (.pointer (some ⟨bkS (.slice a N c),ofS (.slice a N c)+((j-1:Nat):Int).toNat*1,none⟩)),pn] (fun D J=>[cond (D 17) (row (.slice a N c) ((((d4.setIfInBounds j (d4[j-1]!)).setIfInBounds (j-1) (d4[j]!)).toList).map (ic .u16)) 32 1) (cond (D 15) (row (.slice a N c) (((d4.setIfInBounds j (d4[j-1]!)).toList).map (ic .u16)) 32 1) (row (.slice a N c) (d4.toList.map (ic .u16)) 32 1))]) [] (by kernel_rfl) hs ⟨?_,?_,?_,?_,?_,?_,?_,?_,?_,?_,?_,?_,?_,?_,?_,?_,?_,?_,trivial⟩ ?_)
     ·exact oa [] fun D J w hs=>Qac (V:=.slice a N c) rfl (Zz hs)
     ·exact oa [] fun D J w hs=>Qac (V:=.int .i64 (j:Int)) rfl (Zz hs)
     ·exact oa [] fun D J w hs=>Qac (V:=.slice a N c) rfl (Zz hs)
     ·exact oa [] fun D J w hs=>Qac (V:=.int .i64 (j:Int)) rfl (Zz hs)
     ·exact oa [3] fun D J w hs=>Qa3 (a:=(j:Int)) (b:=1) (c:=((j-1:Nat):Int)) rfl rfl (Qaj (by omega) (by omega)) (Zz hs)
     ·exact oa [] fun D J w hs=>Qac (V:=.slice a N c) rfl (Zz hs)
     ·exact oa [] fun D J w hs=>Qac (V:=.int .i64 (j:Int)) rfl (Zz hs)
     ·exact oa [6] fun D J w hs=>Qa3 (a:=(j:Int)) (b:=1) (c:=((j-1:Nat):Int)) rfl rfl (Qaj (by omega) (by omega)) (Zz hs)
     ·exact ob [5,7] [15,17] rfl rfl fun D J w hs=>Qaw QaK Qar.1 (hs.rd 0 rfl) rfl rfl (by omega) (by simp only [QQ6,QQ9,QQ5,Go.Sort.size_swp];omega) (Zz hs)
     ·exact ob [8] [15,17] rfl rfl fun D J w hs=>QaU (j:=0) (V:=I7 (d4[j-1]!)) (j-1) Qar (hs.rd 0 rfl) (Qbk (by omega)) rfl rfl (by omega) (Zz hs)
     ·exact oa [] fun D J w hs=>Qac (V:=.slice a N c) rfl (Zz hs)
     ·exact oa [] fun D J w hs=>Qac (V:=.int .i64 (j:Int)) rfl (Zz hs)
     ·exact ob [10,11] [15,17] rfl rfl fun D J w hs=>Qaw QaK Qar.1 (hs.rd 0 rfl) rfl rfl (by omega) (by simp only [QQ6,QQ9,QQ5,Go.Sort.size_swp];omega) (Zz hs)
     ·exact ob [12] [15,17] rfl rfl fun D J w hs=>QaU (j:=0) (V:=I7 (d4[j]!)) j Qar (hs.rd 0 rfl) (Qbk (by omega)) rfl rfl (by omega) (Zz hs)
     ·exact ob [0,1] [15,17] rfl rfl fun D J w hs=>Qaw QaK Qar.1 (hs.rd 0 rfl) rfl rfl (by omega) (by simp only [QQ6,QQ9,QQ5,Go.Sort.size_swp];omega) (Zz hs)
     ·exact ob [9,14] [17] rfl rfl fun D J w hs=>Qcj (z:=d4[j-1]!) j Qar hs 0 rfl rfl (by omega) (by first|omega|(simp only [QQ5,Go.Sort.size_swp];omega)) rfl rfl rfl fun _ hs=>⟨trivial,hs⟩
     ·exact ob [2,4,15] [17] rfl rfl fun D J w hs=>Qaw QaK Qar.1 (hs.rd 0 rfl) rfl rfl (by omega) (by simp only [QQ6,QQ9,QQ5,Go.Sort.size_swp];omega) (Zz hs)
     ·exact oa [13,15,16] fun D J w hs=>Qcj (z:=d4[j]!) (j-1) Qar hs 0 rfl rfl (by omega) (by first|omega|(simp only [QQ5,Go.Sort.size_swp];omega)) rfl rfl rfl fun _ hs=>⟨trivial,hs⟩
     rintro J1 w20 J2 hJ hs
     replace hJ:J2=mix (sq 79 16) J1 _:=hJ
     replace hs:Own w S w20 [row (.slice a N c) ((((d4.setIfInBounds j (d4[j-1]!)).setIfInBounds (j-1) (d4[j]!)).toList).map (ic .u16)) 32 1]:=hs
     subst hJ
     refine Qab (Qaa (Qac (V:=I6 (j:Int)) rfl (Qaa (Qa3 (a:=(j:Int)) (b:=1) (c:=((j-1:Nat):Int)) rfl rfl (Qaj (by omega) (by omega)) (Qaa (Qad (V:=I6 ((j-1:Nat):Int)) rfl (Qae ?_)))))))
     refine ⟨_,?_,_,j-1,((d4.setIfInBounds j (d4[j-1]!)).setIfInBounds (j-1) (d4[j]!)),Qak (Qao (ds:=([9]++sq 64 31)) (by repeat (first|exact Agr.refl _ _|refine Agr.upd ?_ rfl|refine Agr.mix ?_ rfl))) rfl,(by omega),(by simp only [QQ5];exact hz4),(by rw [← hdn,Qs1 c14 c17];rfl),rfl,hs.take 1⟩
     omega
    replace c14:=QQ2 c14
    refine QaJ ?_
    exact ⟨_,d4,Qao (ds:=([9]++sq 62 33)) (by repeat (first|exact Agr.refl _ _|refine Agr.upd ?_ rfl|refine Agr.mix ?_ rfl)),(by unfold dnI;rw [if_pos (by omega),← hdn,QvI c14]),hz4,hs.take 1⟩
   replace c12:=QQ2 c12
   refine Qap ?_
   exact ⟨_,((d1.setIfInBounds i2 (d1[i2-1]!)).setIfInBounds (i2-1) (d1[i2]!)),Qao (ds:=([9]++sq 62 33)) (by repeat (first|exact Agr.refl _ _|refine Agr.upd ?_ rfl|refine Agr.mix ?_ rfl)),(by unfold dnI;rw [if_neg (by omega)];rfl),(by simp only [QQ5];exact hz1),hs.take 1⟩
  rintro J' w21 ⟨Jo,d3,rfl,hd3,hz3,hs⟩
  refine Qag (Qab (Qaa (Qac (V:=I6 (hi:Int)) rfl (Qaa (Qac (V:=I6 (i2:Int)) rfl (Qaa (Qa3 (a:=(hi:Int)) (b:=(i2:Int)) (c:=((hi-i2:Nat):Int)) rfl rfl (Qaj (by omega) (by omega)) (Qaa (QcR rfl rfl (Qae (Qfs (fun J J' w'=>∃ (Jo:Env) (d5:Array Int),J'=mix ([10]++sq 99 34) Jo J/\(d5=upI hi i2 d3)/\(d5.size=N)/\Own w S w' [row (.slice a N c) (d5.toList.map (ic .u16)) 32 1]) ?_ ?_)))))))))))
  ·
   refine Qam (t:=decide (2<=((hi-i2:Nat):Int))) rfl (fun c22=>?_) (fun c22=>?_)
   ·
    replace c22:=QQ1 c22
    refine Qag (Qab (Qaa (Qac (V:=I6 (i2:Int)) rfl (Qaa (QaD (a:=(i2:Int)) (b:=1) (c:=((i2+1:Nat):Int)) rfl rfl (Qaj (by omega) (by omega)) (Qaa (Qad (V:=I6 ((i2+1:Nat):Int)) rfl (Qae (Qan (QaC (fun J μ J' w'=>∃ (Jo:Env) (p:Nat) (d6:Array Int),J'=upd (mix ([10]++sq 101 32) Jo J) 10 (I6 (p:Int))/\(i2<p/\p<=hi)/\(d6.size=N)/\(Sort.shiftUp ltInt hi p d6=Sort.shiftUp ltInt hi (i2+1) d3)/\μ=hi-p/\Own w S w' [row (.slice a N c) (d6.toList.map (ic .u16)) 32 1]) ?_ ?_))))))))))
    ·exact ⟨_,_,i2+1,d3,Qak (Qao (ds:=([10]++sq 101 32)) (Agr.refl _ _)) rfl,(by omega),hz3,rfl,rfl,hs⟩
    rintro μ J' w23 ⟨Jo,p,d6,rfl,hp,hz6,hup,rfl,hs⟩
    refine Qag (Qag (Qab (Qaa (Qac (V:=I6 (p:Int)) rfl (Qaa (Qac (V:=I6 (hi:Int)) rfl (Qaa (Qa2 rfl rfl (Qae (Qam (t:=decide ((p:Int)<(hi:Int))) rfl (fun c24=>?_) (fun c24=>?_)))))))))))
    ·
     replace c24:=QQ1 c24
     refine Qap (Qag (Qan (Qag (Qag (QaH HM [some 106,some 107,some 108,some 109,some 110,some 111,some 112,some 113,some 114,some 115,some 116] [] [0,0,3,7,0,0,32,112,240,511,1023] [pv (.slice a N c),pv (I6 (p:Int)),pv (.pointer (some ⟨bkS (.slice a N c),ofS (.slice a N c)+(p:Int).toNat*1,none⟩)),pv (I7 (d6[p]!)),pv (.slice a N c),pv (I6 (p:Int)),pv (I6 ((p-1:Nat):Int)),pv (.pointer (some ⟨bkS (.slice a N c),ofS (.slice a N c)+((p-1:Nat):Int).toNat*1,none⟩)),pv (I7 (d6[p-1]!)),pv (.bool (decide (d6[p]!<d6[p-1]!))),pv (.bool (!decide (d6[p]!<d6[p-1]!)))] (fun _ _=>_) [10] (by kernel_rfl) hs ⟨?_,?_,?_,?_,?_,?_,?_,?_,?_,?_,?_,trivial⟩ ?_)))))
     ·exact oa [] fun D J w hs=>Qac (V:=.slice a N c) rfl (Zz hs)
     ·exact oa [] fun D J w hs=>Qac (V:=.int .i64 (p:Int)) rfl (Zz hs)
     ·exact oa [0,1] fun D J w hs=>Qaw QaK Qar.1 (hs.rd 0 rfl) rfl rfl (by omega) (by simp only [QQ6,QQ9,QQ5,Go.Sort.size_swp];omega) (Zz hs)
     ·exact oa [2] fun D J w hs=>QaU (j:=0) (V:=.int .u16 (d6[p]!)) p Qar (hs.rd 0 rfl) (Qbk (by omega)) rfl rfl (by omega) (Zz hs)
     ·exact oa [] fun D J w hs=>Qac (V:=.slice a N c) rfl (Zz hs)
     ·exact oa [] fun D J w hs=>Qac (V:=.int .i64 (p:Int)) rfl (Zz hs)
     ·exact oa [5] fun D J w hs=>Qa3 (a:=(p:Int)) (b:=1) (c:=((p-1:Nat):Int)) rfl rfl (Qaj (by omega) (by omega)) (Zz hs)
     ·exact oa [4,6] fun D J w hs=>Qaw QaK Qar.1 (hs.rd 0 rfl) rfl rfl (by omega) (by simp only [QQ6,QQ9,QQ5,Go.Sort.size_swp];omega) (Zz hs)
     ·exact oa [7] fun D J w hs=>QaU (j:=0) (V:=.int .u16 (d6[p-1]!)) (p-1) Qar (hs.rd 0 rfl) (Qbk (by omega)) rfl rfl (by omega) (Zz hs)
     ·exact oa [3,8] fun D J w hs=>Qas (vs:=[.int .u16 (d6[p]!),.int .u16 (d6[p-1]!)]) (V:=.bool (decide (d6[p]!<d6[p-1]!))) Qc0 rfl rfl (Qcl _ (d6[p]!) (d6[p-1]!)) hs fun _ hs=>Zz hs
     ·exact oa [9] fun D J w hs=>Qbx rfl (Zz hs)
     rintro J1 w26 J2 hJ hs
     replace hJ:J2=upd (mix (sq 106 11) J1 _) 116 (.bool (!decide (d6[p]!<d6[p-1]!))):=hJ
     subst hJ
     refine Qam (t:=!decide (d6[p]!<d6[p-1]!)) rfl (fun c27=>?_) (fun c27=>?_)
     ·
      replace c27:=Qby c27
      replace c27:=QQ2 c27
      refine QaJ ?_
      exact ⟨_,d6,Qao (ds:=([10]++sq 99 34)) (by repeat (first|exact Agr.refl _ _|refine Agr.upd ?_ rfl|refine Agr.mix ?_ rfl)),(by unfold upI;rw [if_pos (by omega),← hup,QuB c24 c27]),hz6,hs.take 1⟩
     replace c27:=Qbr c27
     replace c27:=QQ1 c27
     refine Qap (QaH HM [some 117,some 118,some 119,some 120,some 121,some 122,some 123,some 124,some 125,some 126,some 127,some 128,some 129,some 130,some 131,none,some 132,none] [] [0,0,0,0,8,0,0,64,224,480,0,0,3072,7168,16355,32739,65535,131071] [pv (.slice a N c),pv (I6 (p:Int)),pv (.slice a N c),pv (I6 (p:Int)),pv (I6 ((p-1:Nat):Int)),pv (.slice a N c),pv (I6 (p:Int)),pv (I6 ((p-1:Nat):Int)),pv (.pointer (some ⟨bkS (.slice a N c),ofS (.slice a N c)+((p-1:Nat):Int).toNat*1,none⟩)),pv (I7 (d6[p-1]!)),pv (.slice a N c),pv (I6 (p:Int)),pv (.pointer (some ⟨bkS (.slice a N c),ofS (.slice a N c)+(p:Int).toNat*1,none⟩)),pv (I7 (d6[p]!)),pv (.pointer (some ⟨bkS (.slice a N c),ofS (.slice a N c)+(p:Int).toNat*1,none⟩)),pn,pv (.pointer (some ⟨bkS (.slice a N c),ofS (.slice a N c)+((p-1:Nat):Int).toNat*1,none⟩)),pn] (fun D J=>[cond (D 17) (row (.slice a N c) ((((d6.setIfInBounds p (d6[p-1]!)).setIfInBounds (p-1) (d6[p]!)).toList).map (ic .u16)) 32 1) (cond (D 15) (row (.slice a N c) (((d6.setIfInBounds p (d6[p-1]!)).toList).map (ic .u16)) 32 1) (row (.slice a N c) (d6.toList.map (ic .u16)) 32 1))]) [] (by kernel_rfl) hs ⟨?_,?_,?_,?_,?_,?_,?_,?_,?_,?_,?_,?_,?_,?_,?_,?_,?_,?_,trivial⟩ ?_)
     ·exact oa [] fun D J w hs=>Qac (V:=.slice a N c) rfl (Zz hs)
     ·exact oa [] fun D J w hs=>Qac (V:=.int .i64 (p:Int)) rfl (Zz hs)
     ·exact oa [] fun D J w hs=>Qac (V:=.slice a N c) rfl (Zz hs)
     ·exact oa [] fun D J w hs=>Qac (V:=.int .i64 (p:Int)) rfl (Zz hs)
     ·exact oa [3] fun D J w hs=>Qa3 (a:=(p:Int)) (b:=1) (c:=((p-1:Nat):Int)) rfl rfl (Qaj (by omega) (by omega)) (Zz hs)
     ·exact oa [] fun D J w hs=>Qac (V:=.slice a N c) rfl (Zz hs)
     ·exact oa [] fun D J w hs=>Qac (V:=.int .i64 (p:Int)) rfl (Zz hs)
     ·exact oa [6] fun D J w hs=>Qa3 (a:=(p:Int)) (b:=1) (c:=((p-1:Nat):Int)) rfl rfl (Qaj (by omega) (by omega)) (Zz hs)
     ·exact ob [5,7] [15,17] rfl rfl fun D J w hs=>Qaw QaK Qar.1 (hs.rd 0 rfl) rfl rfl (by omega) (by simp only [QQ6,QQ9,QQ5,Go.Sort.size_swp];omega) (Zz hs)
     ·exact ob [8] [15,17] rfl rfl fun D J w hs=>QaU (j:=0) (V:=I7 (d6[p-1]!)) (p-1) Qar (hs.rd 0 rfl) (Qbk (by omega)) rfl rfl (by omega) (Zz hs)
     ·exact oa [] fun D J w hs=>Qac (V:=.slice a N c) rfl (Zz hs)
     ·exact oa [] fun D J w hs=>Qac (V:=.int .i64 (p:Int)) rfl (Zz hs)
     ·exact ob [10,11] [15,17] rfl rfl fun D J w hs=>Qaw QaK Qar.1 (hs.rd 0 rfl) rfl rfl (by omega) (by simp only [QQ6,QQ9,QQ5,Go.Sort.size_swp];omega) (Zz hs)
     ·exact ob [12] [15,17] rfl rfl fun D J w hs=>QaU (j:=0) (V:=I7 (d6[p]!)) p Qar (hs.rd 0 rfl) (Qbk (by omega)) rfl rfl (by omega) (Zz hs)
     ·exact ob [0,1] [15,17] rfl rfl fun D J w hs=>Qaw QaK Qar.1 (hs.rd 0 rfl) rfl rfl (by omega) (by simp only [QQ6,QQ9,QQ5,Go.Sort.size_swp];omega) (Zz hs)
     ·exact ob [9,14] [17] rfl rfl fun D J w hs=>Qcj (z:=d6[p-1]!) p Qar hs 0 rfl rfl (by omega) (by first|omega|(simp only [QQ5,Go.Sort.size_swp];omega)) rfl rfl rfl fun _ hs=>⟨trivial,hs⟩
     ·exact ob [2,4,15] [17] rfl rfl fun D J w hs=>Qaw QaK Qar.1 (hs.rd 0 rfl) rfl rfl (by omega) (by simp only [QQ6,QQ9,QQ5,Go.Sort.size_swp];omega) (Zz hs)
     ·exact oa [13,15,16] fun D J w hs=>Qcj (z:=d6[p]!) (p-1) Qar hs 0 rfl rfl (by omega) (by first|omega|(simp only [QQ5,Go.Sort.size_swp];omega)) rfl rfl rfl fun _ hs=>⟨trivial,hs⟩
     rintro J1 w30 J2 hJ hs
     replace hJ:J2=mix (sq 117 16) J1 _:=hJ
     replace hs:Own w S w30 [row (.slice a N c) ((((d6.setIfInBounds p (d6[p-1]!)).setIfInBounds (p-1) (d6[p]!)).toList).map (ic .u16)) 32 1]:=hs
     subst hJ
     refine Qab (Qaa (Qac (V:=I6 (p:Int)) rfl (Qaa (QaD (a:=(p:Int)) (b:=1) (c:=((p+1:Nat):Int)) rfl rfl (Qaj (by omega) (by omega)) (Qaa (Qad (V:=I6 ((p+1:Nat):Int)) rfl (Qae ?_)))))))
     refine ⟨_,?_,_,p+1,((d6.setIfInBounds p (d6[p-1]!)).setIfInBounds (p-1) (d6[p]!)),Qak (Qao (ds:=([10]++sq 101 32)) (by repeat (first|exact Agr.refl _ _|refine Agr.upd ?_ rfl|refine Agr.mix ?_ rfl))) rfl,(by omega),(by simp only [QQ5];exact hz6),(by rw [← hup,QtM c24 c27];rfl),rfl,hs.take 1⟩
     omega
    replace c24:=QQ2 c24
    refine QaJ ?_
    exact ⟨_,d6,Qao (ds:=([10]++sq 99 34)) (by repeat (first|exact Agr.refl _ _|refine Agr.upd ?_ rfl|refine Agr.mix ?_ rfl)),(by unfold upI;rw [if_pos (by omega),← hup,QvD c24]),hz6,hs.take 1⟩
   replace c22:=QQ2 c22
   refine Qap ?_
   exact ⟨_,d3,Qao (ds:=([10]++sq 99 34)) (by repeat (first|exact Agr.refl _ _|refine Agr.upd ?_ rfl|refine Agr.mix ?_ rfl)),(by unfold upI;rw [if_neg (by omega)]),hz3,hs.take 1⟩
  rintro J' w31 ⟨Jo,d5,rfl,hd5,hz5,hs⟩
  refine Qab (Qaa (Qac (V:=I6 (q:Int)) rfl (Qaa (QaD (a:=(q:Int)) (b:=1) (c:=((q+1:Nat):Int)) rfl rfl (Qaj (by omega) (by omega)) (Qaa (Qad (V:=I6 ((q+1:Nat):Int)) rfl (Qae ?_)))))))
  refine ⟨_,?_,_,q+1,i2,d5,Qak (Qak (Qao (ds:=([6,7,8,9,10]++sq 13 120)) (by repeat (first|exact Agr.refl _ _|refine Agr.upd ?_ rfl|refine Agr.mix ?_ rfl))) rfl) rfl,(by omega),(by omega),(by omega),hz5,(by rw [← hev,QiP (q:=q) (by omega) hi2e,if_neg (by omega),if_neg (by omega),hd5,hd3]),rfl,hs.take 1⟩
  omega
 replace c2:=QQ2 c2
 refine QaJ (Qag (Qab (Qaa (Qad (V:=.bool false) rfl (Qae (Qav ?_))))))
 refine ⟨_,Qaq (V:=.bool false) Tryz.results177 rfl,?_⟩
 have hq5:q=5:=by omega
 subst hq5
 have hX:Sort.partialInsertionSort ltInt d lo hi=(d1,false):=hev.symm
 rw [hX]
 exact ⟨(),rfl,hs.take 1,hz1⟩
end Tt
end Go.Proofs
namespace Go.Proofs
open Go Go.Vx Go.RowKit
open Go.Sort (ltInt medianAdjacent order2 partition)
namespace Tt
section
variable {p:Int->Bool} {b:Bool} {i j:Nat} {d:Array Int}
theorem QmH (hb:b=p d[i]!) (h:(i:Int)<=(j:Int)) (h2:b=true):Sort.scanUp p d j i=Sort.scanUp p d j (i+1):=by
 rw [Sort.scanUp,if_pos]
 rw [← hb,h2,Bool.and_true];exact QQ3 (by omega)
theorem QqT (hb:b=p d[i]!) (h:(decide ((i:Int)<=(j:Int))&&b)=false):Sort.scanUp p d j i=i:=by
 rw [Sort.scanUp,if_neg]
 rw [← hb]
 intro h2
 rw [Bool.and_eq_true,decide_eq_true_iff] at h2
 rw [h2.2,Bool.and_true,decide_eq_false_iff_not] at h
 exact h (by omega)
theorem QmB (h0:1<=j) (hb:b=p d[j]!) (h:(i:Int)<=(j:Int)) (h2:b=true):Sort.scanDown p d i j=Sort.scanDown p d i (j-1):=by
 obtain ⟨k,rfl⟩:∃ k,j=k+1:=⟨j-1,by omega⟩
 rw [Sort.scanDown,if_pos]
 ·rfl
 rw [← hb,h2,Bool.and_true];exact QQ3 (by omega)
theorem Qrq (hb:b=p d[j]!) (h:(decide ((i:Int)<=(j:Int))&&b)=false):Sort.scanDown p d i j=j:=by
 cases j with
 | zero=>rfl
 | succ k =>
  rw [Sort.scanDown,if_neg]
  rw [← hb]
  intro h2
  rw [Bool.and_eq_true,decide_eq_true_iff] at h2
  rw [h2.2,Bool.and_true,decide_eq_false_iff_not] at h
  exact h (by omega)
theorem Qqc {lo i2 j2:Nat} (hi:i2=Sort.scanUp (fun x=>!ltInt d[lo]! x) d j i) (hj:j2=Sort.scanDown (fun x=>ltInt d[lo]! x) d i2 j) (h:(j2:Int)<(i2:Int)):Sort.partEqLoop ltInt lo i j d=(i2,d):=by
 rw [Sort.partEqLoop_eq,← hi,← hj,if_pos (by omega)]
theorem Qu5 {lo i2 j2:Nat} (hi:i2=Sort.scanUp (fun x=>!ltInt d[lo]! x) d j i) (hj:j2=Sort.scanDown (fun x=>ltInt d[lo]! x) d i2 j) (h:¬(j2:Int)<(i2:Int)):Sort.partEqLoop ltInt lo i j d=Sort.partEqLoop ltInt lo (i2+1) (j2-1) (Sort.swp d i2 j2):=by
 rw [Sort.partEqLoop_eq,← hi,← hj,if_neg (by omega)]
theorem Qqp {lo i2 j2:Nat} (hi:i2=Sort.scanUp (fun x=>ltInt x d[lo]!) d j i) (hj:j2=Sort.scanDown (fun x=>!ltInt x d[lo]!) d i2 j) (h:(j2:Int)<(i2:Int)):Sort.partLoop ltInt lo i j d=(j2,d):=by
 rw [Sort.partLoop_eq,← hi,← hj,if_pos (by omega)]
theorem QuT {lo i2 j2:Nat} (hi:i2=Sort.scanUp (fun x=>ltInt x d[lo]!) d j i) (hj:j2=Sort.scanDown (fun x=>!ltInt x d[lo]!) d i2 j) (h:¬(j2:Int)<(i2:Int)):Sort.partLoop ltInt lo i j d=Sort.partLoop ltInt lo (i2+1) (j2-1) (Sort.swp d i2 j2):=by
 rw [Sort.partLoop_eq,← hi,← hj,if_neg (by omega)]
theorem Qqq {lo hi pvx i2 j2:Nat} {D:Array Int} (hD:D=Sort.swp d lo pvx) (h1:i2=Sort.scanUp (fun x=>ltInt x D[lo]!) D (hi-1) (lo+1)) (h2:j2=Sort.scanDown (fun x=>!ltInt x D[lo]!) D i2 (hi-1)) (h:(j2:Int)<(i2:Int)):partition ltInt d lo hi pvx=(j2,true,Sort.swp D j2 lo):=by
 subst hD;unfold partition;dsimp only;rw [← h1,← h2,if_pos (by omega)]
theorem QuF {lo hi pvx i2 j2:Nat} {D:Array Int} (hD:D=Sort.swp d lo pvx) (h1:i2=Sort.scanUp (fun x=>ltInt x D[lo]!) D (hi-1) (lo+1)) (h2:j2=Sort.scanDown (fun x=>!ltInt x D[lo]!) D i2 (hi-1)) (h:¬(j2:Int)<(i2:Int)):partition ltInt d lo hi pvx=((Sort.partLoop ltInt lo (i2+1) (j2-1) (Sort.swp D i2 j2)).1,false,Sort.swp (Sort.partLoop ltInt lo (i2+1) (j2-1) (Sort.swp D i2 j2)).2 (Sort.partLoop ltInt lo (i2+1) (j2-1) (Sort.swp D i2 j2)).1 lo):=by
 subst hD;unfold partition;dsimp only;rw [← h1,← h2,if_neg (by omega)]
end
theorem Qvm (w:World) (S:Nat->Prop) (a:Option Addr) (N c:Nat) (d:Array Int) (hsz:d.size=N) (hN:N<=2305843009213693951) (lo hi pvx:Nat) (h1:lo<=pvx) (h2:pvx<hi) (h3:hi<=N) (hR:(row (.slice a N c) (d.toList.map (ic .u16)) 32 1).holds w S) (hlt:∀ x,S x->x<w.heap.size):Calls Tryz.prog 179 #[.slice a N c,.int .i64 (lo:Int),.int .i64 (hi:Int),.int .i64 (pvx:Int)] w (fun e w'=>∃ _u:Unit,e = .returned (.int .i64 (((Sort.partitionEqual ltInt d lo hi pvx).1:Nat):Int))/\Own w S w' [row (.slice a N c) (((Sort.partitionEqual ltInt d lo hi pvx).2).toList.map (ic .u16)) 32 1]/\(Sort.partitionEqual ltInt d lo hi pvx).2.size=N):=by
 refine Qai (n:=84) Tryz.func179 rfl Tryz.ntmps179 rfl ?_
 have hs:=Own.lent hR hlt
 refine Qag (Qab (Qaa (Qad (V:=I6 0) rfl (Qae (Qag (QaH HM [some 11,some 12,some 13,some 14,some 15,some 16,some 17,some 18,some 19,some 20,some 21,some 22,some 23,none,some 24,none] [] [0,0,0,0,0,0,48,112,0,0,768,1792,4083,8179,16383,32767] [pv (.slice a N c),pv (I6 (lo:Int)),pv (.slice a N c),pv (I6 (pvx:Int)),pv (.slice a N c),pv (I6 (pvx:Int)),pv (.pointer (some ⟨bkS (.slice a N c),ofS (.slice a N c)+(pvx:Int).toNat*1,none⟩)),pv (I7 (d[pvx]!)),pv (.slice a N c),pv (I6 (lo:Int)),pv (.pointer (some ⟨bkS (.slice a N c),ofS (.slice a N c)+(lo:Int).toNat*1,none⟩)),pv (I7 (d[lo]!)),pv (.pointer (some ⟨bkS (.slice a N c),ofS (.slice a N c)+(lo:Int).toNat*1,none⟩)),pn,pv (.pointer (some ⟨bkS (.slice a N c),ofS (.slice a N c)+(pvx:Int).toNat*1,none⟩)),pn] (fun D J=>[cond (D 15) (row (.slice a N c) ((((d.setIfInBounds lo (d[pvx]!)).setIfInBounds pvx (d[lo]!)).toList).map (ic .u16)) 32 1) (cond (D 13) (row (.slice a N c) (((d.setIfInBounds lo (d[pvx]!)).toList).map (ic .u16)) 32 1) (row (.slice a N c) (d.toList.map (ic .u16)) 32 1))]) [] (by kernel_rfl) hs ⟨?_,?_,?_,?_,?_,?_,?_,?_,?_,?_,?_,?_,?_,?_,?_,?_,trivial⟩ ?_))))))
 ·exact oa [] fun D J w hs=>Qac (V:=.slice a N c) rfl (Zz hs)
 ·exact oa [] fun D J w hs=>Qac (V:=.int .i64 (lo:Int)) rfl (Zz hs)
 ·exact oa [] fun D J w hs=>Qac (V:=.slice a N c) rfl (Zz hs)
 ·exact oa [] fun D J w hs=>Qac (V:=.int .i64 (pvx:Int)) rfl (Zz hs)
 ·exact oa [] fun D J w hs=>Qac (V:=.slice a N c) rfl (Zz hs)
 ·exact oa [] fun D J w hs=>Qac (V:=.int .i64 (pvx:Int)) rfl (Zz hs)
 ·exact ob [4,5] [13,15] rfl rfl fun D J w hs=>Qaw QaK Qar.1 (hs.rd 0 rfl) rfl rfl (by omega) (by simp only [QQ6,QQ9,QQ5,Go.Sort.size_swp];omega) (Zz hs)
 ·exact ob [6] [13,15] rfl rfl fun D J w hs=>QaU (j:=0) (V:=I7 (d[pvx]!)) pvx Qar (hs.rd 0 rfl) (Qbk (by omega)) rfl rfl (by omega) (Zz hs)
 ·exact oa [] fun D J w hs=>Qac (V:=.slice a N c) rfl (Zz hs)
 ·exact oa [] fun D J w hs=>Qac (V:=.int .i64 (lo:Int)) rfl (Zz hs)
 ·exact ob [8,9] [13,15] rfl rfl fun D J w hs=>Qaw QaK Qar.1 (hs.rd 0 rfl) rfl rfl (by omega) (by simp only [QQ6,QQ9,QQ5,Go.Sort.size_swp];omega) (Zz hs)
 ·exact ob [10] [13,15] rfl rfl fun D J w hs=>QaU (j:=0) (V:=I7 (d[lo]!)) lo Qar (hs.rd 0 rfl) (Qbk (by omega)) rfl rfl (by omega) (Zz hs)
 ·exact ob [0,1] [13,15] rfl rfl fun D J w hs=>Qaw QaK Qar.1 (hs.rd 0 rfl) rfl rfl (by omega) (by simp only [QQ6,QQ9,QQ5,Go.Sort.size_swp];omega) (Zz hs)
 ·exact ob [7,12] [15] rfl rfl fun D J w hs=>Qcj (z:=d[pvx]!) lo Qar hs 0 rfl rfl (by omega) (by first|omega|(simp only [QQ5,Go.Sort.size_swp];omega)) rfl rfl rfl fun _ hs=>⟨trivial,hs⟩
 ·exact ob [2,3,13] [15] rfl rfl fun D J w hs=>Qaw QaK Qar.1 (hs.rd 0 rfl) rfl rfl (by omega) (by simp only [QQ6,QQ9,QQ5,Go.Sort.size_swp];omega) (Zz hs)
 ·exact oa [11,13,14] fun D J w hs=>Qcj (z:=d[lo]!) pvx Qar hs 0 rfl rfl (by omega) (by first|omega|(simp only [QQ5,Go.Sort.size_swp];omega)) rfl rfl rfl fun _ hs=>⟨trivial,hs⟩
 rintro J1 w3 J2 hJ hs
 replace hJ:J2=mix (sq 11 14) J1 _:=hJ
 replace hs:Own w S w3 [row (.slice a N c) ((((d.setIfInBounds lo (d[pvx]!)).setIfInBounds pvx (d[lo]!)).toList).map (ic .u16)) 32 1]:=hs
 subst hJ
 refine Qag (Qab (Qaa (Qac (V:=I6 (lo:Int)) rfl (Qaa (QaD (a:=(lo:Int)) (b:=1) (c:=((lo+1:Nat):Int)) rfl rfl (Qaj (by omega) (by omega)) (Qaa (Qac (V:=I6 (hi:Int)) rfl (Qaa (Qa3 (a:=(hi:Int)) (b:=1) (c:=((hi-1:Nat):Int)) rfl rfl (Qaj (by omega) (by omega)) (Qaa (Qad (V:=I6 ((lo+1:Nat):Int)) rfl (Qaa (Qad (V:=I6 ((hi-1:Nat):Int)) rfl (Qae (Qag (Qan (QaC (fun J μ J' w'=>∃ (Jo:Env) (i:Nat) (j:Nat) (d1:Array Int),J'=upd (upd (mix ([9,10]++sq 29 54) Jo J) 9 (I6 (i:Int))) 10 (I6 (j:Int))/\(lo+1<=i)/\(i<=hi+1)/\(j<hi)/\(d1.size=N)/\(Sort.partEqLoop ltInt lo i j d1=Sort.partitionEqual ltInt d lo hi pvx)/\μ=j+1-i/\Own w S w' [row (.slice a N c) (d1.toList.map (ic .u16)) 32 1]) ?_ ?_)))))))))))))))))
 ·exact ⟨_,_,lo+1,hi-1,(Sort.swp d lo pvx),Qak (Qak (Qao (ds:=([9,10]++sq 29 54)) (Agr.refl _ _)) rfl) rfl,(Nat.le_refl _),(by omega),(by omega),(by rw [Go.Sort.size_swp];exact hsz),rfl,rfl,hs⟩
 rintro μ J' w4 ⟨Jo,i,j,d1,rfl,hi0,hi1,hj,hz1,hev,rfl,hs⟩
 refine Qan (Qag (Qan (QaC (fun J μ J' w'=>∃ (Jo:Env) (i2:Nat),J'=upd (mix ([9]++sq 29 17) Jo J) 9 (I6 (i2:Int))/\(i<=i2)/\(i2<=hi+1)/\(Sort.scanUp (fun x=>!ltInt d1[lo]! x) d1 (j) i2=Sort.scanUp (fun x=>!ltInt d1[lo]! x) d1 (j) (i))/\μ=j+1-i2/\Own w S w' [row (.slice a N c) (d1.toList.map (ic .u16)) 32 1]) ?_ ?_)))
 ·exact ⟨_,_,i,Qak (Qao (ds:=([9]++sq 29 17)) (Agr.refl _ _)) rfl,(Nat.le_refl _),(by omega),rfl,rfl,hs⟩
 rintro μ J' w5 ⟨Jo,i2,rfl,hi2a,hi2b,hsu,rfl,hs⟩
 refine Qag (Qag (QaH HM [some 29,some 30,some 31,some 32,some 33,some 34,some 35,some 36,some 37,some 38,some 39,some 40,some 41,some 42,some 43] [] [0,0,3,7,15,15,63,127,15,15,783,1807,4095,8191,16383] [pv (I6 (i2:Int)),pv (I6 (j:Int)),pv (.bool (decide ((i2:Int)<=(j:Int)))),pv (.bool (decide ((i2:Int)<=(j:Int)))),pg ((decide ((i2:Int)<=(j:Int))) == true) (.slice a N c),pg ((decide ((i2:Int)<=(j:Int))) == true) (I6 (lo:Int)),pg ((decide ((i2:Int)<=(j:Int))) == true) (.pointer (some ⟨bkS (.slice a N c),ofS (.slice a N c)+(lo:Int).toNat*1,none⟩)),pg ((decide ((i2:Int)<=(j:Int))) == true) (I7 (d1[lo]!)),pg ((decide ((i2:Int)<=(j:Int))) == true) (.slice a N c),pg ((decide ((i2:Int)<=(j:Int))) == true) (I6 (i2:Int)),pg ((decide ((i2:Int)<=(j:Int))) == true) (.pointer (some ⟨bkS (.slice a N c),ofS (.slice a N c)+(i2:Int).toNat*1,none⟩)),pg ((decide ((i2:Int)<=(j:Int))) == true) (I7 (d1[i2]!)),pg ((decide ((i2:Int)<=(j:Int))) == true) (.bool (decide (d1[lo]!<d1[i2]!))),pg ((decide ((i2:Int)<=(j:Int))) == true) (.bool (!decide (d1[lo]!<d1[i2]!))),pv (.bool ((decide ((i2:Int)<=(j:Int)))&&(!decide (d1[lo]!<d1[i2]!))))] (fun _ _=>_) [14] (by kernel_rfl) hs ⟨?_,?_,?_,?_,?_,?_,?_,?_,?_,?_,?_,?_,?_,?_,?_,trivial⟩ ?_))
 ·exact oa [] fun D J w hs=>Qac (V:=.int .i64 (i2:Int)) rfl (Zz hs)
 ·exact oa [] fun D J w hs=>Qac (V:=.int .i64 (j:Int)) rfl (Zz hs)
 ·exact oa [0,1] fun D J w hs=>QdS rfl rfl (Zz hs)
 ·exact oa [2] fun D J w hs=>Qac (V:=.bool (decide ((i2:Int)<=(j:Int)))) rfl (Zz hs)
 ·refine og [3] fun D J w hG hs=>?_
  have hgd:=QQ1 (eq_of_beq hG)
  exact Qac (V:=.slice a N c) rfl (Zz hs)
 ·refine og [3] fun D J w hG hs=>?_
  have hgd:=QQ1 (eq_of_beq hG)
  exact Qac (V:=.int .i64 (lo:Int)) rfl (Zz hs)
 ·refine oy [3,4,5] [4,5] fun D J w hG hs=>?_
  have hgd:=QQ1 (eq_of_beq hG)
  exact Qaw QaK Qar.1 (hs.rd 0 rfl) rfl rfl (by omega) (by simp only [QQ6,QQ9,QQ5,Go.Sort.size_swp];omega) (Zz hs)
 ·refine oy [3,6] [6] fun D J w hG hs=>?_
  have hgd:=QQ1 (eq_of_beq hG)
  exact QaU (j:=0) (V:=.int .u16 (d1[lo]!)) lo Qar (hs.rd 0 rfl) (Qbk (by omega)) rfl rfl (by omega) (Zz hs)
 ·refine og [3] fun D J w hG hs=>?_
  have hgd:=QQ1 (eq_of_beq hG)
  exact Qac (V:=.slice a N c) rfl (Zz hs)
 ·refine og [3] fun D J w hG hs=>?_
  have hgd:=QQ1 (eq_of_beq hG)
  exact Qac (V:=.int .i64 (i2:Int)) rfl (Zz hs)
 ·refine oy [3,8,9] [8,9] fun D J w hG hs=>?_
  have hgd:=QQ1 (eq_of_beq hG)
  exact Qaw QaK Qar.1 (hs.rd 0 rfl) rfl rfl (by omega) (by simp only [QQ6,QQ9,QQ5,Go.Sort.size_swp];omega) (Zz hs)
 ·refine oy [3,10] [10] fun D J w hG hs=>?_
  have hgd:=QQ1 (eq_of_beq hG)
  exact QaU (j:=0) (V:=.int .u16 (d1[i2]!)) i2 Qar (hs.rd 0 rfl) (Qbk (by omega)) rfl rfl (by omega) (Zz hs)
 ·refine oy [3,7,11] [7,11] fun D J w hG hs=>?_
  have hgd:=QQ1 (eq_of_beq hG)
  exact Qas (vs:=[.int .u16 (d1[lo]!),.int .u16 (d1[i2]!)]) (V:=.bool (decide (d1[lo]!<d1[i2]!))) Qc0 rfl rfl (Qcl _ (d1[lo]!) (d1[i2]!)) hs fun _ hs=>Zz hs
 ·refine oy [3,12] [12] fun D J w hG hs=>?_
  have hgd:=QQ1 (eq_of_beq hG)
  exact Qbx rfl (Zz hs)
 ·exact oa [3,13] fun D J w hs=>Qbg (h':=!decide (d1[lo]!<d1[i2]!)) rfl rfl rfl (Zz hs)
 rintro J1 w7 J2 hJ hs
 replace hJ:J2=upd (mix (sq 29 15) J1 _) 43 (.bool ((decide ((i2:Int)<=(j:Int)))&&(!decide (d1[lo]!<d1[i2]!)))):=hJ
 subst hJ
 refine Qam (t:=(decide ((i2:Int)<=(j:Int)))&&(!decide (d1[lo]!<d1[i2]!))) rfl (fun c8=>?_) (fun c8=>?_)
 ·
  have c8r:=Qcs c8
  replace c8:=QbY c8
  replace c8:=QQ1 c8
  replace c8r:=Qby c8r
  replace c8r:=QQ2 c8r
  refine Qap (Qan (Qab (Qaa (Qac (V:=I6 (i2:Int)) rfl (Qaa (QaD (a:=(i2:Int)) (b:=1) (c:=((i2+1:Nat):Int)) rfl rfl (Qaj (by omega) (by omega)) (Qaa (Qad (V:=I6 ((i2+1:Nat):Int)) rfl (Qae ?_)))))))))
  refine ⟨_,?_,_,i2+1,Qak (Qao (ds:=([9]++sq 29 17)) (by repeat (first|exact Agr.refl _ _|refine Agr.upd ?_ rfl|refine Agr.mix ?_ rfl))) rfl,(by omega),(by omega),(by rw [← hsu,QmH (p:=fun x=>!ltInt d1[lo]! x) (b:=!decide (d1[lo]!<d1[i2]!)) rfl c8 (by rw [QQ4 c8r];rfl)]),rfl,hs.take 1⟩
  omega
 refine QaJ (Qag (Qan ?_))
 have hi2:i2=Sort.scanUp (fun x=>!ltInt d1[lo]! x) d1 j i:=by rw [← hsu,QqT (p:=fun x=>!ltInt d1[lo]! x) (b:=!decide (d1[lo]!<d1[i2]!)) rfl c8]
 refine QaC (fun J μ J' w'=>∃ (Jo:Env) (j2:Nat),J'=upd (mix ([10]++sq 46 16) Jo J) 10 (I6 (j2:Int))/\(j2<=j)/\(Sort.scanDown (fun x=>ltInt d1[lo]! x) d1 i2 j2=Sort.scanDown (fun x=>ltInt d1[lo]! x) d1 i2 (j))/\μ=2*j2/\Own w S w' [row (.slice a N c) (d1.toList.map (ic .u16)) 32 1]) ?_ ?_
 ·exact ⟨_,_,j,Qak (Qao (ds:=([10]++sq 46 16)) (Agr.refl _ _)) rfl,(Nat.le_refl _),rfl,rfl,hs⟩
 rintro μ J' w9 ⟨Jo,j2,rfl,hj2b,hsd,rfl,hs⟩
 refine Qag (Qag (QaH HM [some 46,some 47,some 48,some 49,some 50,some 51,some 52,some 53,some 54,some 55,some 56,some 57,some 58,some 59] [] [0,0,3,7,15,15,63,127,15,15,783,1807,4095,8191] [pv (I6 (i2:Int)),pv (I6 (j2:Int)),pv (.bool (decide ((i2:Int)<=(j2:Int)))),pv (.bool (decide ((i2:Int)<=(j2:Int)))),pg ((decide ((i2:Int)<=(j2:Int))) == true) (.slice a N c),pg ((decide ((i2:Int)<=(j2:Int))) == true) (I6 (lo:Int)),pg ((decide ((i2:Int)<=(j2:Int))) == true) (.pointer (some ⟨bkS (.slice a N c),ofS (.slice a N c)+(lo:Int).toNat*1,none⟩)),pg ((decide ((i2:Int)<=(j2:Int))) == true) (I7 (d1[lo]!)),pg ((decide ((i2:Int)<=(j2:Int))) == true) (.slice a N c),pg ((decide ((i2:Int)<=(j2:Int))) == true) (I6 (j2:Int)),pg ((decide ((i2:Int)<=(j2:Int))) == true) (.pointer (some ⟨bkS (.slice a N c),ofS (.slice a N c)+(j2:Int).toNat*1,none⟩)),pg ((decide ((i2:Int)<=(j2:Int))) == true) (I7 (d1[j2]!)),pg ((decide ((i2:Int)<=(j2:Int))) == true) (.bool (decide (d1[lo]!<d1[j2]!))),pv (.bool ((decide ((i2:Int)<=(j2:Int)))&&(decide (d1[lo]!<d1[j2]!))))] (fun _ _=>_) [13] (by kernel_rfl) hs ⟨?_,?_,?_,?_,?_,?_,?_,?_,?_,?_,?_,?_,?_,?_,trivial⟩ ?_))
 ·exact oa [] fun D J w hs=>Qac (V:=.int .i64 (i2:Int)) rfl (Zz hs)
 ·exact oa [] fun D J w hs=>Qac (V:=.int .i64 (j2:Int)) rfl (Zz hs)
 ·exact oa [0,1] fun D J w hs=>QdS rfl rfl (Zz hs)
 ·exact oa [2] fun D J w hs=>Qac (V:=.bool (decide ((i2:Int)<=(j2:Int)))) rfl (Zz hs)
 ·refine og [3] fun D J w hG hs=>?_
  have hgd:=QQ1 (eq_of_beq hG)
  exact Qac (V:=.slice a N c) rfl (Zz hs)
 ·refine og [3] fun D J w hG hs=>?_
  have hgd:=QQ1 (eq_of_beq hG)
  exact Qac (V:=.int .i64 (lo:Int)) rfl (Zz hs)
 ·refine oy [3,4,5] [4,5] fun D J w hG hs=>?_
  have hgd:=QQ1 (eq_of_beq hG)
  exact Qaw QaK Qar.1 (hs.rd 0 rfl) rfl rfl (by omega) (by simp only [QQ6,QQ9,QQ5,Go.Sort.size_swp];omega) (Zz hs)
 ·refine oy [3,6] [6] fun D J w hG hs=>?_
  have hgd:=QQ1 (eq_of_beq hG)
  exact QaU (j:=0) (V:=.int .u16 (d1[lo]!)) lo Qar (hs.rd 0 rfl) (Qbk (by omega)) rfl rfl (by omega) (Zz hs)
 ·refine og [3] fun D J w hG hs=>?_
  have hgd:=QQ1 (eq_of_beq hG)
  exact Qac (V:=.slice a N c) rfl (Zz hs)
 ·refine og [3] fun D J w hG hs=>?_
  have hgd:=QQ1 (eq_of_beq hG)
  exact Qac (V:=.int .i64 (j2:Int)) rfl (Zz hs)
 ·refine oy [3,8,9] [8,9] fun D J w hG hs=>?_
  have hgd:=QQ1 (eq_of_beq hG)
  exact Qaw QaK Qar.1 (hs.rd 0 rfl) rfl rfl (by omega) (by simp only [QQ6,QQ9,QQ5,Go.Sort.size_swp];omega) (Zz hs)
 ·refine oy [3,10] [10] fun D J w hG hs=>?_
  have hgd:=QQ1 (eq_of_beq hG)
  exact QaU (j:=0) (V:=.int .u16 (d1[j2]!)) j2 Qar (hs.rd 0 rfl) (Qbk (by omega)) rfl rfl (by omega) (Zz hs)
 ·refine oy [3,7,11] [7,11] fun D J w hG hs=>?_
  have hgd:=QQ1 (eq_of_beq hG)
  exact Qas (vs:=[.int .u16 (d1[lo]!),.int .u16 (d1[j2]!)]) (V:=.bool (decide (d1[lo]!<d1[j2]!))) Qc0 rfl rfl (Qcl _ (d1[lo]!) (d1[j2]!)) hs fun _ hs=>Zz hs
 ·exact oa [3,12] fun D J w hs=>Qbg (h':=decide (d1[lo]!<d1[j2]!)) rfl rfl rfl (Zz hs)
 rintro J1 w11 J2 hJ hs
 replace hJ:J2=upd (mix (sq 46 14) J1 _) 59 (.bool ((decide ((i2:Int)<=(j2:Int)))&&(decide (d1[lo]!<d1[j2]!)))):=hJ
 subst hJ
 refine Qam (t:=(decide ((i2:Int)<=(j2:Int)))&&(decide (d1[lo]!<d1[j2]!))) rfl (fun c12=>?_) (fun c12=>?_)
 ·
  have c12r:=Qcs c12
  replace c12:=QbY c12
  replace c12:=QQ1 c12
  replace c12r:=QQ1 c12r
  refine Qap (Qan (Qab (Qaa (Qac (V:=I6 (j2:Int)) rfl (Qaa (Qa3 (a:=(j2:Int)) (b:=1) (c:=((j2-1:Nat):Int)) rfl rfl (Qaj (by omega) (by omega)) (Qaa (Qad (V:=I6 ((j2-1:Nat):Int)) rfl (Qae ?_)))))))))
  refine ⟨_,?_,_,j2-1,Qak (Qao (ds:=([10]++sq 46 16)) (by repeat (first|exact Agr.refl _ _|refine Agr.upd ?_ rfl|refine Agr.mix ?_ rfl))) rfl,(by omega),(by rw [← hsd,QmB (p:=fun x=>ltInt d1[lo]! x) (b:=decide (d1[lo]!<d1[j2]!)) (by omega) rfl c12 (QQ3 c12r)]),rfl,hs.take 1⟩
  omega
 refine QaJ (Qag (Qag ?_))
 have hj2:j2=Sort.scanDown (fun x=>ltInt d1[lo]! x) d1 i2 j:=by rw [← hsd,Qrq (p:=fun x=>ltInt d1[lo]! x) (b:=decide (d1[lo]!<d1[j2]!)) rfl c12]
 refine Qab (Qaa (Qac (V:=I6 (i2:Int)) rfl (Qaa (Qac (V:=I6 (j2:Int)) rfl (Qaa (QbU rfl rfl (Qae (Qam (t:=decide ((j2:Int)<(i2:Int))) rfl (fun c13=>?_) (fun c13=>?_)))))))))
 ·
  replace c13:=QQ1 c13
  refine QaJ (Qag (Qab (Qaa (Qac (V:=I6 (i2:Int)) rfl (Qaa (Qad (V:=I6 (i2:Int)) rfl (Qae (Qav ?_))))))))
  refine ⟨_,Qaq (V:=I6 (i2:Int)) Tryz.results179 rfl,?_⟩
  have hX:Sort.partitionEqual ltInt d lo hi pvx=(i2,d1):=by rw [← hev,Qqc hi2 hj2 c13]
  rw [hX]
  exact ⟨(),rfl,hs.take 1,hz1⟩
 replace c13:=QQ2 c13
 refine Qap (Qag (QaH HM [some 65,some 66,some 67,some 68,some 69,some 70,some 71,some 72,some 73,some 74,some 75,some 76,some 77,none,some 78,none] [] [0,0,0,0,0,0,48,112,0,0,768,1792,4083,8179,16383,32767] [pv (.slice a N c),pv (I6 (i2:Int)),pv (.slice a N c),pv (I6 (j2:Int)),pv (.slice a N c),pv (I6 (j2:Int)),pv (.pointer (some ⟨bkS (.slice a N c),ofS (.slice a N c)+(j2:Int).toNat*1,none⟩)),pv (I7 (d1[j2]!)),pv (.slice a N c),pv (I6 (i2:Int)),pv (.pointer (some ⟨bkS (.slice a N c),ofS (.slice a N c)+(i2:Int).toNat*1,none⟩)),pv (I7 (d1[i2]!)),pv (.pointer (some ⟨bkS (.slice a N c),ofS (.slice a N c)+(i2:Int).toNat*1,none⟩)),pn,pv (.pointer (some ⟨bkS (.slice a N c),ofS (.slice a N c)+(j2:Int).toNat*1,none⟩)),pn] (fun D J=>[cond (D 15) (row (.slice a N c) ((((d1.setIfInBounds i2 (d1[j2]!)).setIfInBounds j2 (d1[i2]!)).toList).map (ic .u16)) 32 1) (cond (D 13) (row (.slice a N c) (((d1.setIfInBounds i2 (d1[j2]!)).toList).map (ic .u16)) 32 1) (row (.slice a N c) (d1.toList.map (ic .u16)) 32 1))]) [] (by kernel_rfl) hs ⟨?_,?_,?_,?_,?_,?_,?_,?_,?_,?_,?_,?_,?_,?_,?_,?_,trivial⟩ ?_))
 ·exact oa [] fun D J w hs=>Qac (V:=.slice a N c) rfl (Zz hs)
 ·exact oa [] fun D J w hs=>Qac (V:=.int .i64 (i2:Int)) rfl (Zz hs)
 ·exact oa [] fun D J w hs=>Qac (V:=.slice a N c) rfl (Zz hs)
 ·exact oa [] fun D J w hs=>Qac (V:=.int .i64 (j2:Int)) rfl (Zz hs)
 ·exact oa [] fun D J w hs=>Qac (V:=.slice a N c) rfl (Zz hs)
 ·exact oa [] fun D J w hs=>Qac (V:=.int .i64 (j2:Int)) rfl (Zz hs)
 ·exact ob [4,5] [13,15] rfl rfl fun D J w hs=>Qaw QaK Qar.1 (hs.rd 0 rfl) rfl rfl (by omega) (by simp only [QQ6,QQ9,QQ5,Go.Sort.size_swp];omega) (Zz hs)
 ·exact ob [6] [13,15] rfl rfl fun D J w hs=>QaU (j:=0) (V:=I7 (d1[j2]!)) j2 Qar (hs.rd 0 rfl) (Qbk (by omega)) rfl rfl (by omega) (Zz hs)
 ·exact oa [] fun D J w hs=>Qac (V:=.slice a N c) rfl (Zz hs)
 ·exact oa [] fun D J w hs=>Qac (V:=.int .i64 (i2:Int)) rfl (Zz hs)
 ·exact ob [8,9] [13,15] rfl rfl fun D J w hs=>Qaw QaK Qar.1 (hs.rd 0 rfl) rfl rfl (by omega) (by simp only [QQ6,QQ9,QQ5,Go.Sort.size_swp];omega) (Zz hs)
 ·exact ob [10] [13,15] rfl rfl fun D J w hs=>QaU (j:=0) (V:=I7 (d1[i2]!)) i2 Qar (hs.rd 0 rfl) (Qbk (by omega)) rfl rfl (by omega) (Zz hs)
 ·exact ob [0,1] [13,15] rfl rfl fun D J w hs=>Qaw QaK Qar.1 (hs.rd 0 rfl) rfl rfl (by omega) (by simp only [QQ6,QQ9,QQ5,Go.Sort.size_swp];omega) (Zz hs)
 ·exact ob [7,12] [15] rfl rfl fun D J w hs=>Qcj (z:=d1[j2]!) i2 Qar hs 0 rfl rfl (by omega) (by first|omega|(simp only [QQ5,Go.Sort.size_swp];omega)) rfl rfl rfl fun _ hs=>⟨trivial,hs⟩
 ·exact ob [2,3,13] [15] rfl rfl fun D J w hs=>Qaw QaK Qar.1 (hs.rd 0 rfl) rfl rfl (by omega) (by simp only [QQ6,QQ9,QQ5,Go.Sort.size_swp];omega) (Zz hs)
 ·exact oa [11,13,14] fun D J w hs=>Qcj (z:=d1[i2]!) j2 Qar hs 0 rfl rfl (by omega) (by first|omega|(simp only [QQ5,Go.Sort.size_swp];omega)) rfl rfl rfl fun _ hs=>⟨trivial,hs⟩
 rintro J1 w16 J2 hJ hs
 replace hJ:J2=mix (sq 65 14) J1 _:=hJ
 replace hs:Own w S w16 [row (.slice a N c) ((((d1.setIfInBounds i2 (d1[j2]!)).setIfInBounds j2 (d1[i2]!)).toList).map (ic .u16)) 32 1]:=hs
 subst hJ
 refine Qag (Qab (Qaa (Qac (V:=I6 (i2:Int)) rfl (Qaa (QaD (a:=(i2:Int)) (b:=1) (c:=((i2+1:Nat):Int)) rfl rfl (Qaj (by omega) (by omega)) (Qaa (Qad (V:=I6 ((i2+1:Nat):Int)) rfl (Qae (Qab (Qaa (Qac (V:=I6 (j2:Int)) rfl (Qaa (Qa3 (a:=(j2:Int)) (b:=1) (c:=((j2-1:Nat):Int)) rfl rfl (Qaj (by omega) (by omega)) (Qaa (Qad (V:=I6 ((j2-1:Nat):Int)) rfl (Qae ?_))))))))))))))))
 refine ⟨_,?_,_,i2+1,j2-1,((d1.setIfInBounds i2 (d1[j2]!)).setIfInBounds j2 (d1[i2]!)),Qak (Qak (Qao (ds:=([9,10]++sq 29 54)) (by repeat (first|exact Agr.refl _ _|refine Agr.upd ?_ rfl|refine Agr.mix ?_ rfl))) rfl) rfl,(by omega),(by omega),(by omega),(by simp only [QQ5];exact hz1),(by rw [← hev,Qu5 hi2 hj2 c13];rfl),rfl,hs.take 1⟩
 omega
end Tt
end Go.Proofs
namespace Go.Proofs
open Go Go.Vx Go.RowKit
open Go.Sort (ltInt medianAdjacent order2 partition)
namespace Tt
theorem QuD (w:World) (S:Nat->Prop) (a:Option Addr) (N c:Nat) (d:Array Int) (hsz:d.size=N) (hN:N<=2305843009213693951) (lo hi pvx:Nat) (h1:lo<=pvx) (h2:pvx<hi) (h3:hi<=N) (hR:(row (.slice a N c) (d.toList.map (ic .u16)) 32 1).holds w S) (hlt:∀ x,S x->x<w.heap.size):Calls Tryz.prog 180 #[.slice a N c,.int .i64 (lo:Int),.int .i64 (hi:Int),.int .i64 (pvx:Int)] w (fun e w'=>∃ _u:Unit,e = .returned (.tuple #[.int .i64 (((partition ltInt d lo hi pvx).1:Nat):Int),.bool (partition ltInt d lo hi pvx).2.1])/\Own w S w' [row (.slice a N c) (((partition ltInt d lo hi pvx).2.2).toList.map (ic .u16)) 32 1]/\(partition ltInt d lo hi pvx).2.2.size=N):=by
 refine Qai (n:=168) Tryz.func180 rfl Tryz.ntmps180 rfl ?_
 have hs:=Own.lent hR hlt
 refine Qag (Qab (Qaa (Qad (V:=I6 0) rfl (Qaa (Qad (V:=.bool false) rfl (Qae (Qag (QaH HM [some 12,some 13,some 14,some 15,some 16,some 17,some 18,some 19,some 20,some 21,some 22,some 23,some 24,none,some 25,none] [] [0,0,0,0,0,0,48,112,0,0,768,1792,4083,8179,16383,32767] [pv (.slice a N c),pv (I6 (lo:Int)),pv (.slice a N c),pv (I6 (pvx:Int)),pv (.slice a N c),pv (I6 (pvx:Int)),pv (.pointer (some ⟨bkS (.slice a N c),ofS (.slice a N c)+(pvx:Int).toNat*1,none⟩)),pv (I7 (d[pvx]!)),pv (.slice a N c),pv (I6 (lo:Int)),pv (.pointer (some ⟨bkS (.slice a N c),ofS (.slice a N c)+(lo:Int).toNat*1,none⟩)),pv (I7 (d[lo]!)),pv (.pointer (some ⟨bkS (.slice a N c),ofS (.slice a N c)+(lo:Int).toNat*1,none⟩)),pn,pv (.pointer (some ⟨bkS (.slice a N c),ofS (.slice a N c)+(pvx:Int).toNat*1,none⟩)),pn] (fun D J=>[cond (D 15) (row (.slice a N c) ((((d.setIfInBounds lo (d[pvx]!)).setIfInBounds pvx (d[lo]!)).toList).map (ic .u16)) 32 1) (cond (D 13) (row (.slice a N c) (((d.setIfInBounds lo (d[pvx]!)).toList).map (ic .u16)) 32 1) (row (.slice a N c) (d.toList.map (ic .u16)) 32 1))]) [] (by kernel_rfl) hs ⟨?_,?_,?_,?_,?_,?_,?_,?_,?_,?_,?_,?_,?_,?_,?_,?_,trivial⟩ ?_))))))))
 ·exact oa [] fun D J w hs=>Qac (V:=.slice a N c) rfl (Zz hs)
 ·exact oa [] fun D J w hs=>Qac (V:=.int .i64 (lo:Int)) rfl (Zz hs)
 ·exact oa [] fun D J w hs=>Qac (V:=.slice a N c) rfl (Zz hs)
 ·exact oa [] fun D J w hs=>Qac (V:=.int .i64 (pvx:Int)) rfl (Zz hs)
 ·exact oa [] fun D J w hs=>Qac (V:=.slice a N c) rfl (Zz hs)
 ·exact oa [] fun D J w hs=>Qac (V:=.int .i64 (pvx:Int)) rfl (Zz hs)
 ·exact ob [4,5] [13,15] rfl rfl fun D J w hs=>Qaw QaK Qar.1 (hs.rd 0 rfl) rfl rfl (by omega) (by simp only [QQ6,QQ9,QQ5,Go.Sort.size_swp];omega) (Zz hs)
 ·exact ob [6] [13,15] rfl rfl fun D J w hs=>QaU (j:=0) (V:=I7 (d[pvx]!)) pvx Qar (hs.rd 0 rfl) (Qbk (by omega)) rfl rfl (by omega) (Zz hs)
 ·exact oa [] fun D J w hs=>Qac (V:=.slice a N c) rfl (Zz hs)
 ·exact oa [] fun D J w hs=>Qac (V:=.int .i64 (lo:Int)) rfl (Zz hs)
 ·exact ob [8,9] [13,15] rfl rfl fun D J w hs=>Qaw QaK Qar.1 (hs.rd 0 rfl) rfl rfl (by omega) (by simp only [QQ6,QQ9,QQ5,Go.Sort.size_swp];omega) (Zz hs)
 ·exact ob [10] [13,15] rfl rfl fun D J w hs=>QaU (j:=0) (V:=I7 (d[lo]!)) lo Qar (hs.rd 0 rfl) (Qbk (by omega)) rfl rfl (by omega) (Zz hs)
 ·exact ob [0,1] [13,15] rfl rfl fun D J w hs=>Qaw QaK Qar.1 (hs.rd 0 rfl) rfl rfl (by omega) (by simp only [QQ6,QQ9,QQ5,Go.Sort.size_swp];omega) (Zz hs)
 ·exact ob [7,12] [15] rfl rfl fun D J w hs=>Qcj (z:=d[pvx]!) lo Qar hs 0 rfl rfl (by omega) (by first|omega|(simp only [QQ5,Go.Sort.size_swp];omega)) rfl rfl rfl fun _ hs=>⟨trivial,hs⟩
 ·exact ob [2,3,13] [15] rfl rfl fun D J w hs=>Qaw QaK Qar.1 (hs.rd 0 rfl) rfl rfl (by omega) (by simp only [QQ6,QQ9,QQ5,Go.Sort.size_swp];omega) (Zz hs)
 ·exact oa [11,13,14] fun D J w hs=>Qcj (z:=d[lo]!) pvx Qar hs 0 rfl rfl (by omega) (by first|omega|(simp only [QQ5,Go.Sort.size_swp];omega)) rfl rfl rfl fun _ hs=>⟨trivial,hs⟩
 rintro J1 w3 J2 hJ hs
 replace hJ:J2=mix (sq 12 14) J1 _:=hJ
 replace hs:Own w S w3 [row (.slice a N c) ((((d.setIfInBounds lo (d[pvx]!)).setIfInBounds pvx (d[lo]!)).toList).map (ic .u16)) 32 1]:=hs
 subst hJ
 refine Qag (Qab (Qaa (Qac (V:=I6 (lo:Int)) rfl (Qaa (QaD (a:=(lo:Int)) (b:=1) (c:=((lo+1:Nat):Int)) rfl rfl (Qaj (by omega) (by omega)) (Qaa (Qac (V:=I6 (hi:Int)) rfl (Qaa (Qa3 (a:=(hi:Int)) (b:=1) (c:=((hi-1:Nat):Int)) rfl rfl (Qaj (by omega) (by omega)) (Qaa (Qad (V:=I6 ((lo+1:Nat):Int)) rfl (Qaa (Qad (V:=I6 ((hi-1:Nat):Int)) rfl (Qae (Qag (Qan ?_))))))))))))))))
 obtain ⟨dd,hdd⟩:∃ dd,dd=(Sort.swp d lo pvx):=⟨_,rfl⟩
 replace hs:=hs.conv 0 rfl (R':=row (.slice a N c) (dd.toList.map (ic .u16)) 32 1) (fun S h=>by rw [hdd];exact h)
 have hzd:dd.size=N:=by rw [hdd,Go.Sort.size_swp];exact hsz
 refine QaC (fun J μ J' w'=>∃ (Jo:Env) (i2:Nat),J'=upd (mix ([10]++sq 30 16) Jo J) 10 (I6 (i2:Int))/\((lo+1)<=i2)/\(i2<=hi+1)/\(Sort.scanUp (fun x=>ltInt x dd[lo]!) dd (hi-1) i2=Sort.scanUp (fun x=>ltInt x dd[lo]!) dd (hi-1) ((lo+1)))/\μ=(hi-1)+1-i2/\Own w S w' [row (.slice a N c) (dd.toList.map (ic .u16)) 32 1]) ?_ ?_
 ·exact ⟨_,_,(lo+1),Qak (Qao (ds:=([10]++sq 30 16)) (Agr.refl _ _)) rfl,(Nat.le_refl _),(by omega),rfl,rfl,hs⟩
 rintro μ J' w4 ⟨Jo,i2,rfl,hi2a,hi2b,hsu,rfl,hs⟩
 refine Qag (Qag (QaH HM [some 30,some 31,some 32,some 33,some 34,some 35,some 36,some 37,some 38,some 39,some 40,some 41,some 42,some 43] [] [0,0,3,7,15,15,63,127,15,15,783,1807,4095,8191] [pv (I6 (i2:Int)),pv (I6 ((hi-1:Nat):Int)),pv (.bool (decide ((i2:Int)<=((hi-1:Nat):Int)))),pv (.bool (decide ((i2:Int)<=((hi-1:Nat):Int)))),pg ((decide ((i2:Int)<=((hi-1:Nat):Int))) == true) (.slice a N c),pg ((decide ((i2:Int)<=((hi-1:Nat):Int))) == true) (I6 (i2:Int)),pg ((decide ((i2:Int)<=((hi-1:Nat):Int))) == true) (.pointer (some ⟨bkS (.slice a N c),ofS (.slice a N c)+(i2:Int).toNat*1,none⟩)),pg ((decide ((i2:Int)<=((hi-1:Nat):Int))) == true) (I7 (dd[i2]!)),pg ((decide ((i2:Int)<=((hi-1:Nat):Int))) == true) (.slice a N c),pg ((decide ((i2:Int)<=((hi-1:Nat):Int))) == true) (I6 (lo:Int)),pg ((decide ((i2:Int)<=((hi-1:Nat):Int))) == true) (.pointer (some ⟨bkS (.slice a N c),ofS (.slice a N c)+(lo:Int).toNat*1,none⟩)),pg ((decide ((i2:Int)<=((hi-1:Nat):Int))) == true) (I7 (dd[lo]!)),pg ((decide ((i2:Int)<=((hi-1:Nat):Int))) == true) (.bool (decide (dd[i2]!<dd[lo]!))),pv (.bool ((decide ((i2:Int)<=((hi-1:Nat):Int)))&&(decide (dd[i2]!<dd[lo]!))))] (fun _ _=>_) [13] (by kernel_rfl) hs ⟨?_,?_,?_,?_,?_,?_,?_,?_,?_,?_,?_,?_,?_,?_,trivial⟩ ?_))
 ·exact oa [] fun D J w hs=>Qac (V:=.int .i64 (i2:Int)) rfl (Zz hs)
 ·exact oa [] fun D J w hs=>Qac (V:=.int .i64 ((hi-1:Nat):Int)) rfl (Zz hs)
 ·exact oa [0,1] fun D J w hs=>QdS rfl rfl (Zz hs)
 ·exact oa [2] fun D J w hs=>Qac (V:=.bool (decide ((i2:Int)<=((hi-1:Nat):Int)))) rfl (Zz hs)
 ·refine og [3] fun D J w hG hs=>?_
  have hgd:=QQ1 (eq_of_beq hG)
  exact Qac (V:=.slice a N c) rfl (Zz hs)
 ·refine og [3] fun D J w hG hs=>?_
  have hgd:=QQ1 (eq_of_beq hG)
  exact Qac (V:=.int .i64 (i2:Int)) rfl (Zz hs)
 ·refine oy [3,4,5] [4,5] fun D J w hG hs=>?_
  have hgd:=QQ1 (eq_of_beq hG)
  exact Qaw QaK Qar.1 (hs.rd 0 rfl) rfl rfl (by omega) (by simp only [QQ6,QQ9,QQ5,Go.Sort.size_swp];omega) (Zz hs)
 ·refine oy [3,6] [6] fun D J w hG hs=>?_
  have hgd:=QQ1 (eq_of_beq hG)
  exact QaU (j:=0) (V:=.int .u16 (dd[i2]!)) i2 Qar (hs.rd 0 rfl) (Qbk (by omega)) rfl rfl (by omega) (Zz hs)
 ·refine og [3] fun D J w hG hs=>?_
  have hgd:=QQ1 (eq_of_beq hG)
  exact Qac (V:=.slice a N c) rfl (Zz hs)
 ·refine og [3] fun D J w hG hs=>?_
  have hgd:=QQ1 (eq_of_beq hG)
  exact Qac (V:=.int .i64 (lo:Int)) rfl (Zz hs)
 ·refine oy [3,8,9] [8,9] fun D J w hG hs=>?_
  have hgd:=QQ1 (eq_of_beq hG)
  exact Qaw QaK Qar.1 (hs.rd 0 rfl) rfl rfl (by omega) (by simp only [QQ6,QQ9,QQ5,Go.Sort.size_swp];omega) (Zz hs)
 ·refine oy [3,10] [10] fun D J w hG hs=>?_
  have hgd:=QQ1 (eq_of_beq hG)
  exact QaU (j:=0) (V:=.int .u16 (dd[lo]!)) lo Qar (hs.rd 0 rfl) (Qbk (by omega)) rfl rfl (by omega) (Zz hs)
 ·refine oy [3,7,11] [7,11] fun D J w hG hs=>?_
  have hgd:=QQ1 (eq_of_beq hG)
  exact Qas (vs:=[.int .u16 (dd[i2]!),.int .u16 (dd[lo]!)]) (V:=.bool (decide (dd[i2]!<dd[lo]!))) Qc0 rfl rfl (Qcl _ (dd[i2]!) (dd[lo]!)) hs fun _ hs=>Zz hs
 ·exact oa [3,12] fun D J w hs=>Qbg (h':=decide (dd[i2]!<dd[lo]!)) rfl rfl rfl (Zz hs)
 rintro J1 w6 J2 hJ hs
 replace hJ:J2=upd (mix (sq 30 14) J1 _) 43 (.bool ((decide ((i2:Int)<=((hi-1:Nat):Int)))&&(decide (dd[i2]!<dd[lo]!)))):=hJ
 subst hJ
 refine Qam (t:=(decide ((i2:Int)<=((hi-1:Nat):Int)))&&(decide (dd[i2]!<dd[lo]!))) rfl (fun c7=>?_) (fun c7=>?_)
 ·
  have c7r:=Qcs c7
  replace c7:=QbY c7
  replace c7:=QQ1 c7
  replace c7r:=QQ1 c7r
  refine Qap (Qan (Qab (Qaa (Qac (V:=I6 (i2:Int)) rfl (Qaa (QaD (a:=(i2:Int)) (b:=1) (c:=((i2+1:Nat):Int)) rfl rfl (Qaj (by omega) (by omega)) (Qaa (Qad (V:=I6 ((i2+1:Nat):Int)) rfl (Qae ?_)))))))))
  refine ⟨_,?_,_,i2+1,Qak (Qao (ds:=([10]++sq 30 16)) (by repeat (first|exact Agr.refl _ _|refine Agr.upd ?_ rfl|refine Agr.mix ?_ rfl))) rfl,(by omega),(by omega),(by rw [← hsu,QmH (p:=fun x=>ltInt x dd[lo]!) (b:=decide (dd[i2]!<dd[lo]!)) rfl c7 (QQ3 c7r)]),rfl,hs.take 1⟩
  omega
 refine QaJ (Qag (Qan ?_))
 have hi2:i2=Sort.scanUp (fun x=>ltInt x dd[lo]!) dd (hi-1) (lo+1):=by rw [← hsu,QqT (p:=fun x=>ltInt x dd[lo]!) (b:=decide (dd[i2]!<dd[lo]!)) rfl c7]
 refine QaC (fun J μ J' w'=>∃ (Jo:Env) (j2:Nat),J'=upd (mix ([11]++sq 46 17) Jo J) 11 (I6 (j2:Int))/\(j2<=(hi-1))/\(Sort.scanDown (fun x=>!ltInt x dd[lo]!) dd i2 j2=Sort.scanDown (fun x=>!ltInt x dd[lo]!) dd i2 ((hi-1)))/\(lo<=j2)/\μ=2*j2/\Own w S w' [row (.slice a N c) (dd.toList.map (ic .u16)) 32 1]) ?_ ?_
 ·exact ⟨_,_,(hi-1),Qak (Qao (ds:=([11]++sq 46 17)) (Agr.refl _ _)) rfl,(Nat.le_refl _),rfl,(by omega),rfl,hs⟩
 rintro μ J' w8 ⟨Jo,j2,rfl,hj2b,hsd,hlowj2,rfl,hs⟩
 refine Qag (Qag (QaH HM [some 46,some 47,some 48,some 49,some 50,some 51,some 52,some 53,some 54,some 55,some 56,some 57,some 58,some 59,some 60] [] [0,0,3,7,15,15,63,127,15,15,783,1807,4095,8191,16383] [pv (I6 (i2:Int)),pv (I6 (j2:Int)),pv (.bool (decide ((i2:Int)<=(j2:Int)))),pv (.bool (decide ((i2:Int)<=(j2:Int)))),pg ((decide ((i2:Int)<=(j2:Int))) == true) (.slice a N c),pg ((decide ((i2:Int)<=(j2:Int))) == true) (I6 (j2:Int)),pg ((decide ((i2:Int)<=(j2:Int))) == true) (.pointer (some ⟨bkS (.slice a N c),ofS (.slice a N c)+(j2:Int).toNat*1,none⟩)),pg ((decide ((i2:Int)<=(j2:Int))) == true) (I7 (dd[j2]!)),pg ((decide ((i2:Int)<=(j2:Int))) == true) (.slice a N c),pg ((decide ((i2:Int)<=(j2:Int))) == true) (I6 (lo:Int)),pg ((decide ((i2:Int)<=(j2:Int))) == true) (.pointer (some ⟨bkS (.slice a N c),ofS (.slice a N c)+(lo:Int).toNat*1,none⟩)),pg ((decide ((i2:Int)<=(j2:Int))) == true) (I7 (dd[lo]!)),pg ((decide ((i2:Int)<=(j2:Int))) == true) (.bool (decide (dd[j2]!<dd[lo]!))),pg ((decide ((i2:Int)<=(j2:Int))) == true) (.bool (!decide (dd[j2]!<dd[lo]!))),pv (.bool ((decide ((i2:Int)<=(j2:Int)))&&(!decide (dd[j2]!<dd[lo]!))))] (fun _ _=>_) [14] (by kernel_rfl) hs ⟨?_,?_,?_,?_,?_,?_,?_,?_,?_,?_,?_,?_,?_,?_,?_,trivial⟩ ?_))
 ·exact oa [] fun D J w hs=>Qac (V:=.int .i64 (i2:Int)) rfl (Zz hs)
 ·exact oa [] fun D J w hs=>Qac (V:=.int .i64 (j2:Int)) rfl (Zz hs)
 ·exact oa [0,1] fun D J w hs=>QdS rfl rfl (Zz hs)
 ·exact oa [2] fun D J w hs=>Qac (V:=.bool (decide ((i2:Int)<=(j2:Int)))) rfl (Zz hs)
 ·refine og [3] fun D J w hG hs=>?_
  have hgd:=QQ1 (eq_of_beq hG)
  exact Qac (V:=.slice a N c) rfl (Zz hs)
 ·refine og [3] fun D J w hG hs=>?_
  have hgd:=QQ1 (eq_of_beq hG)
  exact Qac (V:=.int .i64 (j2:Int)) rfl (Zz hs)
 ·refine oy [3,4,5] [4,5] fun D J w hG hs=>?_
  have hgd:=QQ1 (eq_of_beq hG)
  exact Qaw QaK Qar.1 (hs.rd 0 rfl) rfl rfl (by omega) (by simp only [QQ6,QQ9,QQ5,Go.Sort.size_swp];omega) (Zz hs)
 ·refine oy [3,6] [6] fun D J w hG hs=>?_
  have hgd:=QQ1 (eq_of_beq hG)
  exact QaU (j:=0) (V:=.int .u16 (dd[j2]!)) j2 Qar (hs.rd 0 rfl) (Qbk (by omega)) rfl rfl (by omega) (Zz hs)
 ·refine og [3] fun D J w hG hs=>?_
  have hgd:=QQ1 (eq_of_beq hG)
  exact Qac (V:=.slice a N c) rfl (Zz hs)
 ·refine og [3] fun D J w hG hs=>?_
  have hgd:=QQ1 (eq_of_beq hG)
  exact Qac (V:=.int .i64 (lo:Int)) rfl (Zz hs)
 ·refine oy [3,8,9] [8,9] fun D J w hG hs=>?_
  have hgd:=QQ1 (eq_of_beq hG)
  exact Qaw QaK Qar.1 (hs.rd 0 rfl) rfl rfl (by omega) (by simp only [QQ6,QQ9,QQ5,Go.Sort.size_swp];omega) (Zz hs)
 ·refine oy [3,10] [10] fun D J w hG hs=>?_
  have hgd:=QQ1 (eq_of_beq hG)
  exact QaU (j:=0) (V:=.int .u16 (dd[lo]!)) lo Qar (hs.rd 0 rfl) (Qbk (by omega)) rfl rfl (by omega) (Zz hs)
 ·refine oy [3,7,11] [7,11] fun D J w hG hs=>?_
  have hgd:=QQ1 (eq_of_beq hG)
  exact Qas (vs:=[.int .u16 (dd[j2]!),.int .u16 (dd[lo]!)]) (V:=.bool (decide (dd[j2]!<dd[lo]!))) Qc0 rfl rfl (Qcl _ (dd[j2]!) (dd[lo]!)) hs fun _ hs=>Zz hs
 ·refine oy [3,12] [12] fun D J w hG hs=>?_
  have hgd:=QQ1 (eq_of_beq hG)
  exact Qbx rfl (Zz hs)
 ·exact oa [3,13] fun D J w hs=>Qbg (h':=!decide (dd[j2]!<dd[lo]!)) rfl rfl rfl (Zz hs)
 rintro J1 w10 J2 hJ hs
 replace hJ:J2=upd (mix (sq 46 15) J1 _) 60 (.bool ((decide ((i2:Int)<=(j2:Int)))&&(!decide (dd[j2]!<dd[lo]!)))):=hJ
 subst hJ
 refine Qam (t:=(decide ((i2:Int)<=(j2:Int)))&&(!decide (dd[j2]!<dd[lo]!))) rfl (fun c11=>?_) (fun c11=>?_)
 ·
  have c11r:=Qcs c11
  replace c11:=QbY c11
  replace c11:=QQ1 c11
  replace c11r:=Qby c11r
  replace c11r:=QQ2 c11r
  refine Qap (Qan (Qab (Qaa (Qac (V:=I6 (j2:Int)) rfl (Qaa (Qa3 (a:=(j2:Int)) (b:=1) (c:=((j2-1:Nat):Int)) rfl rfl (Qaj (by omega) (by omega)) (Qaa (Qad (V:=I6 ((j2-1:Nat):Int)) rfl (Qae ?_)))))))))
  refine ⟨_,?_,_,j2-1,Qak (Qao (ds:=([11]++sq 46 17)) (by repeat (first|exact Agr.refl _ _|refine Agr.upd ?_ rfl|refine Agr.mix ?_ rfl))) rfl,(by omega),(by rw [← hsd,QmB (p:=fun x=>!ltInt x dd[lo]!) (b:=!decide (dd[j2]!<dd[lo]!)) (by omega) rfl c11 (by rw [QQ4 c11r];rfl)]),(by omega),rfl,hs.take 1⟩
  omega
 refine QaJ (Qag (Qag ?_))
 have hj2:j2=Sort.scanDown (fun x=>!ltInt x dd[lo]!) dd i2 (hi-1):=by rw [← hsd,Qrq (p:=fun x=>!ltInt x dd[lo]!) (b:=!decide (dd[j2]!<dd[lo]!)) rfl c11]
 refine Qab (Qaa (Qac (V:=I6 (i2:Int)) rfl (Qaa (Qac (V:=I6 (j2:Int)) rfl (Qaa (QbU rfl rfl (Qae (Qam (t:=decide ((j2:Int)<(i2:Int))) rfl (fun c12=>?_) (fun c12=>?_)))))))))
 ·
  replace c12:=QQ1 c12
  refine Qag (QaH HM [some 66,some 67,some 68,some 69,some 70,some 71,some 72,some 73,some 74,some 75,some 76,some 77,some 78,none,some 79,none] [] [0,0,0,0,0,0,48,112,0,0,768,1792,4083,8179,16383,32767] [pv (.slice a N c),pv (I6 (j2:Int)),pv (.slice a N c),pv (I6 (lo:Int)),pv (.slice a N c),pv (I6 (lo:Int)),pv (.pointer (some ⟨bkS (.slice a N c),ofS (.slice a N c)+(lo:Int).toNat*1,none⟩)),pv (I7 (dd[lo]!)),pv (.slice a N c),pv (I6 (j2:Int)),pv (.pointer (some ⟨bkS (.slice a N c),ofS (.slice a N c)+(j2:Int).toNat*1,none⟩)),pv (I7 (dd[j2]!)),pv (.pointer (some ⟨bkS (.slice a N c),ofS (.slice a N c)+(j2:Int).toNat*1,none⟩)),pn,pv (.pointer (some ⟨bkS (.slice a N c),ofS (.slice a N c)+(lo:Int).toNat*1,none⟩)),pn] (fun D J=>[cond (D 15) (row (.slice a N c) ((((dd.setIfInBounds j2 (dd[lo]!)).setIfInBounds lo (dd[j2]!)).toList).map (ic .u16)) 32 1) (cond (D 13) (row (.slice a N c) (((dd.setIfInBounds j2 (dd[lo]!)).toList).map (ic .u16)) 32 1) (row (.slice a N c) (dd.toList.map (ic .u16)) 32 1))]) [] (by kernel_rfl) hs ⟨?_,?_,?_,?_,?_,?_,?_,?_,?_,?_,?_,?_,?_,?_,?_,?_,trivial⟩ ?_)
  ·exact oa [] fun D J w hs=>Qac (V:=.slice a N c) rfl (Zz hs)
  ·exact oa [] fun D J w hs=>Qac (V:=.int .i64 (j2:Int)) rfl (Zz hs)
  ·exact oa [] fun D J w hs=>Qac (V:=.slice a N c) rfl (Zz hs)
  ·exact oa [] fun D J w hs=>Qac (V:=.int .i64 (lo:Int)) rfl (Zz hs)
  ·exact oa [] fun D J w hs=>Qac (V:=.slice a N c) rfl (Zz hs)
  ·exact oa [] fun D J w hs=>Qac (V:=.int .i64 (lo:Int)) rfl (Zz hs)
  ·exact ob [4,5] [13,15] rfl rfl fun D J w hs=>Qaw QaK Qar.1 (hs.rd 0 rfl) rfl rfl (by omega) (by simp only [QQ6,QQ9,QQ5,Go.Sort.size_swp];omega) (Zz hs)
  ·exact ob [6] [13,15] rfl rfl fun D J w hs=>QaU (j:=0) (V:=I7 (dd[lo]!)) lo Qar (hs.rd 0 rfl) (Qbk (by omega)) rfl rfl (by omega) (Zz hs)
  ·exact oa [] fun D J w hs=>Qac (V:=.slice a N c) rfl (Zz hs)
  ·exact oa [] fun D J w hs=>Qac (V:=.int .i64 (j2:Int)) rfl (Zz hs)
  ·exact ob [8,9] [13,15] rfl rfl fun D J w hs=>Qaw QaK Qar.1 (hs.rd 0 rfl) rfl rfl (by omega) (by simp only [QQ6,QQ9,QQ5,Go.Sort.size_swp];omega) (Zz hs)
  ·exact ob [10] [13,15] rfl rfl fun D J w hs=>QaU (j:=0) (V:=I7 (dd[j2]!)) j2 Qar (hs.rd 0 rfl) (Qbk (by omega)) rfl rfl (by omega) (Zz hs)
  ·exact ob [0,1] [13,15] rfl rfl fun D J w hs=>Qaw QaK Qar.1 (hs.rd 0 rfl) rfl rfl (by omega) (by simp only [QQ6,QQ9,QQ5,Go.Sort.size_swp];omega) (Zz hs)
  ·exact ob [7,12] [15] rfl rfl fun D J w hs=>Qcj (z:=dd[lo]!) j2 Qar hs 0 rfl rfl (by omega) (by first|omega|(simp only [QQ5,Go.Sort.size_swp];omega)) rfl rfl rfl fun _ hs=>⟨trivial,hs⟩
  ·exact ob [2,3,13] [15] rfl rfl fun D J w hs=>Qaw QaK Qar.1 (hs.rd 0 rfl) rfl rfl (by omega) (by simp only [QQ6,QQ9,QQ5,Go.Sort.size_swp];omega) (Zz hs)
  ·exact oa [11,13,14] fun D J w hs=>Qcj (z:=dd[j2]!) lo Qar hs 0 rfl rfl (by omega) (by first|omega|(simp only [QQ5,Go.Sort.size_swp];omega)) rfl rfl rfl fun _ hs=>⟨trivial,hs⟩
  rintro J1 w15 J2 hJ hs
  replace hJ:J2=mix (sq 66 14) J1 _:=hJ
  replace hs:Own w S w15 [row (.slice a N c) ((((dd.setIfInBounds j2 (dd[lo]!)).setIfInBounds lo (dd[j2]!)).toList).map (ic .u16)) 32 1]:=hs
  subst hJ
  refine Qag (Qab (Qaa (Qac (V:=I6 (j2:Int)) rfl (Qaa (Qad (V:=I6 (j2:Int)) rfl (Qaa (Qad (V:=.bool true) rfl (Qae (Qav ?_)))))))))
  refine ⟨_,QbF (U:=I6 (j2:Int)) (V:=.bool true) Tryz.results180 rfl rfl,?_⟩
  have hX:partition ltInt d lo hi pvx=(j2,true,Sort.swp dd j2 lo):=Qqq hdd hi2 hj2 c12
  rw [hX]
  exact ⟨(),rfl,hs.take 1,by first|(rw [Go.Sort.size_swp];assumption)|assumption⟩
 replace c12:=QQ2 c12
 refine Qap (Qag (QaH HM [some 81,some 82,some 83,some 84,some 85,some 86,some 87,some 88,some 89,some 90,some 91,some 92,some 93,none,some 94,none] [] [0,0,0,0,0,0,48,112,0,0,768,1792,4083,8179,16383,32767] [pv (.slice a N c),pv (I6 (i2:Int)),pv (.slice a N c),pv (I6 (j2:Int)),pv (.slice a N c),pv (I6 (j2:Int)),pv (.pointer (some ⟨bkS (.slice a N c),ofS (.slice a N c)+(j2:Int).toNat*1,none⟩)),pv (I7 (dd[j2]!)),pv (.slice a N c),pv (I6 (i2:Int)),pv (.pointer (some ⟨bkS (.slice a N c),ofS (.slice a N c)+(i2:Int).toNat*1,none⟩)),pv (I7 (dd[i2]!)),pv (.pointer (some ⟨bkS (.slice a N c),ofS (.slice a N c)+(i2:Int).toNat*1,none⟩)),pn,pv (.pointer (some ⟨bkS (.slice a N c),ofS (.slice a N c)+(j2:Int).toNat*1,none⟩)),pn] (fun D J=>[cond (D 15) (row (.slice a N c) ((((dd.setIfInBounds i2 (dd[j2]!)).setIfInBounds j2 (dd[i2]!)).toList).map (ic .u16)) 32 1) (cond (D 13) (row (.slice a N c) (((dd.setIfInBounds i2 (dd[j2]!)).toList).map (ic .u16)) 32 1) (row (.slice a N c) (dd.toList.map (ic .u16)) 32 1))]) [] (by kernel_rfl) hs ⟨?_,?_,?_,?_,?_,?_,?_,?_,?_,?_,?_,?_,?_,?_,?_,?_,trivial⟩ ?_))
 ·exact oa [] fun D J w hs=>Qac (V:=.slice a N c) rfl (Zz hs)
 ·exact oa [] fun D J w hs=>Qac (V:=.int .i64 (i2:Int)) rfl (Zz hs)
 ·exact oa [] fun D J w hs=>Qac (V:=.slice a N c) rfl (Zz hs)
 ·exact oa [] fun D J w hs=>Qac (V:=.int .i64 (j2:Int)) rfl (Zz hs)
 ·exact oa [] fun D J w hs=>Qac (V:=.slice a N c) rfl (Zz hs)
 ·exact oa [] fun D J w hs=>Qac (V:=.int .i64 (j2:Int)) rfl (Zz hs)
 ·exact ob [4,5] [13,15] rfl rfl fun D J w hs=>Qaw QaK Qar.1 (hs.rd 0 rfl) rfl rfl (by omega) (by simp only [QQ6,QQ9,QQ5,Go.Sort.size_swp];omega) (Zz hs)
 ·exact ob [6] [13,15] rfl rfl fun D J w hs=>QaU (j:=0) (V:=I7 (dd[j2]!)) j2 Qar (hs.rd 0 rfl) (Qbk (by omega)) rfl rfl (by omega) (Zz hs)
 ·exact oa [] fun D J w hs=>Qac (V:=.slice a N c) rfl (Zz hs)
 ·exact oa [] fun D J w hs=>Qac (V:=.int .i64 (i2:Int)) rfl (Zz hs)
 ·exact ob [8,9] [13,15] rfl rfl fun D J w hs=>Qaw QaK Qar.1 (hs.rd 0 rfl) rfl rfl (by omega) (by simp only [QQ6,QQ9,QQ5,Go.Sort.size_swp];omega) (Zz hs)
 ·exact ob [10] [13,15] rfl rfl fun D J w hs=>QaU (j:=0) (V:=I7 (dd[i2]!)) i2 Qar (hs.rd 0 rfl) (Qbk (by omega)) rfl rfl (by omega) (Zz hs)
 ·exact ob [0,1] [13,15] rfl rfl fun D J w hs=>Qaw QaK Qar.1 (hs.rd 0 rfl) rfl rfl (by omega) (by simp only [QQ6,QQ9,QQ5,Go.Sort.size_swp];omega) (Zz hs)
 ·exact ob [7,12] [15] rfl rfl fun D J w hs=>Qcj (z:=dd[j2]!) i2 Qar hs 0 rfl rfl (by omega) (by first|omega|(simp only [QQ5,Go.Sort.size_swp];omega)) rfl rfl rfl fun _ hs=>⟨trivial,hs⟩
 ·exact ob [2,3,13] [15] rfl rfl fun D J w hs=>Qaw QaK Qar.1 (hs.rd 0 rfl) rfl rfl (by omega) (by simp only [QQ6,QQ9,QQ5,Go.Sort.size_swp];omega) (Zz hs)
 ·exact oa [11,13,14] fun D J w hs=>Qcj (z:=dd[i2]!) j2 Qar hs 0 rfl rfl (by omega) (by first|omega|(simp only [QQ5,Go.Sort.size_swp];omega)) rfl rfl rfl fun _ hs=>⟨trivial,hs⟩
 rintro J1 w18 J2 hJ hs
 replace hJ:J2=mix (sq 81 14) J1 _:=hJ
 replace hs:Own w S w18 [row (.slice a N c) ((((dd.setIfInBounds i2 (dd[j2]!)).setIfInBounds j2 (dd[i2]!)).toList).map (ic .u16)) 32 1]:=hs
 subst hJ
 refine Qag (Qab (Qaa (Qac (V:=I6 (i2:Int)) rfl (Qaa (QaD (a:=(i2:Int)) (b:=1) (c:=((i2+1:Nat):Int)) rfl rfl (Qaj (by omega) (by omega)) (Qaa (Qad (V:=I6 ((i2+1:Nat):Int)) rfl (Qae (Qag (Qab (Qaa (Qac (V:=I6 (j2:Int)) rfl (Qaa (Qa3 (a:=(j2:Int)) (b:=1) (c:=((j2-1:Nat):Int)) rfl rfl (Qaj (by omega) (by omega)) (Qaa (Qad (V:=I6 ((j2-1:Nat):Int)) rfl (Qae (Qag (Qan ?_)))))))))))))))))))
 have hpt:=QuF hdd hi2 hj2 c12
 refine QaC (fun J μ J' w'=>∃ (Jo:Env) (i:Nat) (j:Nat) (d1:Array Int),J'=upd (upd (mix ([10,11]++sq 99 54) Jo J) 10 (I6 (i:Int))) 11 (I6 (j:Int))/\(lo+1<=i)/\(i<=hi+1)/\(j<hi/\lo<=j)/\(d1.size=N)/\(Sort.partLoop ltInt lo i j d1=Sort.partLoop ltInt lo (i2+1) (j2-1) (Sort.swp dd i2 j2))/\μ=j+1-i/\Own w S w' [row (.slice a N c) (d1.toList.map (ic .u16)) 32 1]) ?_ ?_
 ·exact ⟨_,_,i2+1,j2-1,((dd.setIfInBounds i2 (dd[j2]!)).setIfInBounds j2 (dd[i2]!)),Qak (Qak (Qao (ds:=([10,11]++sq 99 54)) (Agr.refl _ _)) rfl) rfl,(by omega),(by omega),(by omega),(by simp only [QQ5];exact hzd),rfl,rfl,hs⟩
 rintro μ J' w19 ⟨Jo,i,j,d1,rfl,hi0,hi1,hj,hz1,hev,rfl,hs⟩
 refine Qan (Qag (Qan (QaC (fun J μ J' w'=>∃ (Jo:Env) (i4:Nat),J'=upd (mix ([10]++sq 99 16) Jo J) 10 (I6 (i4:Int))/\(i<=i4)/\(i4<=hi+1)/\(Sort.scanUp (fun x=>ltInt x d1[lo]!) d1 (j) i4=Sort.scanUp (fun x=>ltInt x d1[lo]!) d1 (j) (i))/\μ=j+1-i4/\Own w S w' [row (.slice a N c) (d1.toList.map (ic .u16)) 32 1]) ?_ ?_)))
 ·exact ⟨_,_,i,Qak (Qao (ds:=([10]++sq 99 16)) (Agr.refl _ _)) rfl,(Nat.le_refl _),(by omega),rfl,rfl,hs⟩
 rintro μ J' w20 ⟨Jo,i4,rfl,hi4a,hi4b,hsu4,rfl,hs⟩
 refine Qag (Qag (QaH HM [some 99,some 100,some 101,some 102,some 103,some 104,some 105,some 106,some 107,some 108,some 109,some 110,some 111,some 112] [] [0,0,3,7,15,15,63,127,15,15,783,1807,4095,8191] [pv (I6 (i4:Int)),pv (I6 (j:Int)),pv (.bool (decide ((i4:Int)<=(j:Int)))),pv (.bool (decide ((i4:Int)<=(j:Int)))),pg ((decide ((i4:Int)<=(j:Int))) == true) (.slice a N c),pg ((decide ((i4:Int)<=(j:Int))) == true) (I6 (i4:Int)),pg ((decide ((i4:Int)<=(j:Int))) == true) (.pointer (some ⟨bkS (.slice a N c),ofS (.slice a N c)+(i4:Int).toNat*1,none⟩)),pg ((decide ((i4:Int)<=(j:Int))) == true) (I7 (d1[i4]!)),pg ((decide ((i4:Int)<=(j:Int))) == true) (.slice a N c),pg ((decide ((i4:Int)<=(j:Int))) == true) (I6 (lo:Int)),pg ((decide ((i4:Int)<=(j:Int))) == true) (.pointer (some ⟨bkS (.slice a N c),ofS (.slice a N c)+(lo:Int).toNat*1,none⟩)),pg ((decide ((i4:Int)<=(j:Int))) == true) (I7 (d1[lo]!)),pg ((decide ((i4:Int)<=(j:Int))) == true) (.bool (decide (d1[i4]!<d1[lo]!))),pv (.bool ((decide ((i4:Int)<=(j:Int)))&&(decide (d1[i4]!<d1[lo]!))))] (fun _ _=>_) [13] (by kernel_rfl) hs ⟨?_,?_,?_,?_,?_,?_,?_,?_,?_,?_,?_,?_,?_,?_,trivial⟩ ?_))
 ·exact oa [] fun D J w hs=>Qac (V:=.int .i64 (i4:Int)) rfl (Zz hs)
 ·exact oa [] fun D J w hs=>Qac (V:=.int .i64 (j:Int)) rfl (Zz hs)
 ·exact oa [0,1] fun D J w hs=>QdS rfl rfl (Zz hs)
 ·exact oa [2] fun D J w hs=>Qac (V:=.bool (decide ((i4:Int)<=(j:Int)))) rfl (Zz hs)
 ·refine og [3] fun D J w hG hs=>?_
  have hgd:=QQ1 (eq_of_beq hG)
  exact Qac (V:=.slice a N c) rfl (Zz hs)
 ·refine og [3] fun D J w hG hs=>?_
  have hgd:=QQ1 (eq_of_beq hG)
  exact Qac (V:=.int .i64 (i4:Int)) rfl (Zz hs)
 ·refine oy [3,4,5] [4,5] fun D J w hG hs=>?_
  have hgd:=QQ1 (eq_of_beq hG)
  exact Qaw QaK Qar.1 (hs.rd 0 rfl) rfl rfl (by omega) (by simp only [QQ6,QQ9,QQ5,Go.Sort.size_swp];omega) (Zz hs)
 ·refine oy [3,6] [6] fun D J w hG hs=>?_
  have hgd:=QQ1 (eq_of_beq hG)
  exact QaU (j:=0) (V:=.int .u16 (d1[i4]!)) i4 Qar (hs.rd 0 rfl) (Qbk (by omega)) rfl rfl (by omega) (Zz hs)
 ·refine og [3] fun D J w hG hs=>?_
  have hgd:=QQ1 (eq_of_beq hG)
  exact Qac (V:=.slice a N c) rfl (Zz hs)
 ·refine og [3] fun D J w hG hs=>?_
  have hgd:=QQ1 (eq_of_beq hG)
  exact Qac (V:=.int .i64 (lo:Int)) rfl (Zz hs)
 ·refine oy [3,8,9] [8,9] fun D J w hG hs=>?_
  have hgd:=QQ1 (eq_of_beq hG)
  exact Qaw QaK Qar.1 (hs.rd 0 rfl) rfl rfl (by omega) (by simp only [QQ6,QQ9,QQ5,Go.Sort.size_swp];omega) (Zz hs)
 ·refine oy [3,10] [10] fun D J w hG hs=>?_
  have hgd:=QQ1 (eq_of_beq hG)
  exact QaU (j:=0) (V:=.int .u16 (d1[lo]!)) lo Qar (hs.rd 0 rfl) (Qbk (by omega)) rfl rfl (by omega) (Zz hs)
 ·refine oy [3,7,11] [7,11] fun D J w hG hs=>?_
  have hgd:=QQ1 (eq_of_beq hG)
  exact Qas (vs:=[.int .u16 (d1[i4]!),.int .u16 (d1[lo]!)]) (V:=.bool (decide (d1[i4]!<d1[lo]!))) Qc0 rfl rfl (Qcl _ (d1[i4]!) (d1[lo]!)) hs fun _ hs=>Zz hs
 ·exact oa [3,12] fun D J w hs=>Qbg (h':=decide (d1[i4]!<d1[lo]!)) rfl rfl rfl (Zz hs)
 rintro J1 w22 J2 hJ hs
 replace hJ:J2=upd (mix (sq 99 14) J1 _) 112 (.bool ((decide ((i4:Int)<=(j:Int)))&&(decide (d1[i4]!<d1[lo]!)))):=hJ
 subst hJ
 refine Qam (t:=(decide ((i4:Int)<=(j:Int)))&&(decide (d1[i4]!<d1[lo]!))) rfl (fun c23=>?_) (fun c23=>?_)
 ·
  have c23r:=Qcs c23
  replace c23:=QbY c23
  replace c23:=QQ1 c23
  replace c23r:=QQ1 c23r
  refine Qap (Qan (Qab (Qaa (Qac (V:=I6 (i4:Int)) rfl (Qaa (QaD (a:=(i4:Int)) (b:=1) (c:=((i4+1:Nat):Int)) rfl rfl (Qaj (by omega) (by omega)) (Qaa (Qad (V:=I6 ((i4+1:Nat):Int)) rfl (Qae ?_)))))))))
  refine ⟨_,?_,_,i4+1,Qak (Qao (ds:=([10]++sq 99 16)) (by repeat (first|exact Agr.refl _ _|refine Agr.upd ?_ rfl|refine Agr.mix ?_ rfl))) rfl,(by omega),(by omega),(by rw [← hsu4,QmH (p:=fun x=>ltInt x d1[lo]!) (b:=decide (d1[i4]!<d1[lo]!)) rfl c23 (QQ3 c23r)]),rfl,hs.take 1⟩
  omega
 refine QaJ (Qag (Qan ?_))
 have hi4:i4=Sort.scanUp (fun x=>ltInt x d1[lo]!) d1 j i:=by rw [← hsu4,QqT (p:=fun x=>ltInt x d1[lo]!) (b:=decide (d1[i4]!<d1[lo]!)) rfl c23]
 refine QaC (fun J μ J' w'=>∃ (Jo:Env) (j4:Nat),J'=upd (mix ([11]++sq 115 17) Jo J) 11 (I6 (j4:Int))/\(j4<=j)/\(Sort.scanDown (fun x=>!ltInt x d1[lo]!) d1 i4 j4=Sort.scanDown (fun x=>!ltInt x d1[lo]!) d1 i4 (j))/\(lo<=j4)/\μ=2*j4/\Own w S w' [row (.slice a N c) (d1.toList.map (ic .u16)) 32 1]) ?_ ?_
 ·exact ⟨_,_,j,Qak (Qao (ds:=([11]++sq 115 17)) (Agr.refl _ _)) rfl,(Nat.le_refl _),rfl,(by omega),rfl,hs⟩
 rintro μ J' w24 ⟨Jo,j4,rfl,hj4b,hsd4,hlowj4,rfl,hs⟩
 refine Qag (Qag (QaH HM [some 115,some 116,some 117,some 118,some 119,some 120,some 121,some 122,some 123,some 124,some 125,some 126,some 127,some 128,some 129] [] [0,0,3,7,15,15,63,127,15,15,783,1807,4095,8191,16383] [pv (I6 (i4:Int)),pv (I6 (j4:Int)),pv (.bool (decide ((i4:Int)<=(j4:Int)))),pv (.bool (decide ((i4:Int)<=(j4:Int)))),pg ((decide ((i4:Int)<=(j4:Int))) == true) (.slice a N c),pg ((decide ((i4:Int)<=(j4:Int))) == true) (I6 (j4:Int)),pg ((decide ((i4:Int)<=(j4:Int))) == true) (.pointer (some ⟨bkS (.slice a N c),ofS (.slice a N c)+(j4:Int).toNat*1,none⟩)),pg ((decide ((i4:Int)<=(j4:Int))) == true) (I7 (d1[j4]!)),pg ((decide ((i4:Int)<=(j4:Int))) == true) (.slice a N c),pg ((decide ((i4:Int)<=(j4:Int))) == true) (I6 (lo:Int)),pg ((decide ((i4:Int)<=(j4:Int))) == true) (.pointer (some ⟨bkS (.slice a N c),ofS (.slice a N c)+(lo:Int).toNat*1,none⟩)),pg ((decide ((i4:Int)<=(j4:Int))) == true) (I7 (d1[lo]!)),pg ((decide ((i4:Int)<=(j4:Int))) == true) (.bool (decide (d1[j4]!<d1[lo]!))),pg ((decide ((i4:Int)<=(j4:Int))) == true) (.bool (!decide (d1[j4]!<d1[lo]!))),pv (.bool ((decide ((i4:Int)<=(j4:Int)))&&(!decide (d1[j4]!<d1[lo]!))))] (fun _ _=>_) [14] (by kernel_rfl) hs ⟨?_,?_,?_,?_,?_,?_,?_,?_,?_,?_,?_,?_,?_,?_,?_,trivial⟩ ?_))
 ·exact oa [] fun D J w hs=>Qac (V:=.int .i64 (i4:Int)) rfl (Zz hs)
 ·exact oa [] fun D J w hs=>Qac (V:=.int .i64 (j4:Int)) rfl (Zz hs)
 ·exact oa [0,1] fun D J w hs=>QdS rfl rfl (Zz hs)
 ·exact oa [2] fun D J w hs=>Qac (V:=.bool (decide ((i4:Int)<=(j4:Int)))) rfl (Zz hs)
 ·refine og [3] fun D J w hG hs=>?_
  have hgd:=QQ1 (eq_of_beq hG)
  exact Qac (V:=.slice a N c) rfl (Zz hs)
 ·refine og [3] fun D J w hG hs=>?_
  have hgd:=QQ1 (eq_of_beq hG)
  exact Qac (V:=.int .i64 (j4:Int)) rfl (Zz hs)
 ·refine oy [3,4,5] [4,5] fun D J w hG hs=>?_
  have hgd:=QQ1 (eq_of_beq hG)
  exact Qaw QaK Qar.1 (hs.rd 0 rfl) rfl rfl (by omega) (by simp only [QQ6,QQ9,QQ5,Go.Sort.size_swp];omega) (Zz hs)
 ·refine oy [3,6] [6] fun D J w hG hs=>?_
  have hgd:=QQ1 (eq_of_beq hG)
  exact QaU (j:=0) (V:=.int .u16 (d1[j4]!)) j4 Qar (hs.rd 0 rfl) (Qbk (by omega)) rfl rfl (by omega) (Zz hs)
 ·refine og [3] fun D J w hG hs=>?_
  have hgd:=QQ1 (eq_of_beq hG)
  exact Qac (V:=.slice a N c) rfl (Zz hs)
 ·refine og [3] fun D J w hG hs=>?_
  have hgd:=QQ1 (eq_of_beq hG)
  exact Qac (V:=.int .i64 (lo:Int)) rfl (Zz hs)
 ·refine oy [3,8,9] [8,9] fun D J w hG hs=>?_
  have hgd:=QQ1 (eq_of_beq hG)
  exact Qaw QaK Qar.1 (hs.rd 0 rfl) rfl rfl (by omega) (by simp only [QQ6,QQ9,QQ5,Go.Sort.size_swp];omega) (Zz hs)
 ·refine oy [3,10] [10] fun D J w hG hs=>?_
  have hgd:=QQ1 (eq_of_beq hG)
  exact QaU (j:=0) (V:=.int .u16 (d1[lo]!)) lo Qar (hs.rd 0 rfl) (Qbk (by omega)) rfl rfl (by omega) (Zz hs)
 ·refine oy [3,7,11] [7,11] fun D J w hG hs=>?_
  have hgd:=QQ1 (eq_of_beq hG)
  exact Qas (vs:=[.int .u16 (d1[j4]!),.int .u16 (d1[lo]!)]) (V:=.bool (decide (d1[j4]!<d1[lo]!))) Qc0 rfl rfl (Qcl _ (d1[j4]!) (d1[lo]!)) hs fun _ hs=>Zz hs
 ·refine oy [3,12] [12] fun D J w hG hs=>?_
  have hgd:=QQ1 (eq_of_beq hG)
  exact Qbx rfl (Zz hs)
 ·exact oa [3,13] fun D J w hs=>Qbg (h':=!decide (d1[j4]!<d1[lo]!)) rfl rfl rfl (Zz hs)
 rintro J1 w26 J2 hJ hs
 replace hJ:J2=upd (mix (sq 115 15) J1 _) 129 (.bool ((decide ((i4:Int)<=(j4:Int)))&&(!decide (d1[j4]!<d1[lo]!)))):=hJ
 subst hJ
 refine Qam (t:=(decide ((i4:Int)<=(j4:Int)))&&(!decide (d1[j4]!<d1[lo]!))) rfl (fun c27=>?_) (fun c27=>?_)
 ·
  have c27r:=Qcs c27
  replace c27:=QbY c27
  replace c27:=QQ1 c27
  replace c27r:=Qby c27r
  replace c27r:=QQ2 c27r
  refine Qap (Qan (Qab (Qaa (Qac (V:=I6 (j4:Int)) rfl (Qaa (Qa3 (a:=(j4:Int)) (b:=1) (c:=((j4-1:Nat):Int)) rfl rfl (Qaj (by omega) (by omega)) (Qaa (Qad (V:=I6 ((j4-1:Nat):Int)) rfl (Qae ?_)))))))))
  refine ⟨_,?_,_,j4-1,Qak (Qao (ds:=([11]++sq 115 17)) (by repeat (first|exact Agr.refl _ _|refine Agr.upd ?_ rfl|refine Agr.mix ?_ rfl))) rfl,(by omega),(by rw [← hsd4,QmB (p:=fun x=>!ltInt x d1[lo]!) (b:=!decide (d1[j4]!<d1[lo]!)) (by omega) rfl c27 (by rw [QQ4 c27r];rfl)]),(by omega),rfl,hs.take 1⟩
  omega
 refine QaJ (Qag (Qag ?_))
 have hj4:j4=Sort.scanDown (fun x=>!ltInt x d1[lo]!) d1 i4 j:=by rw [← hsd4,Qrq (p:=fun x=>!ltInt x d1[lo]!) (b:=!decide (d1[j4]!<d1[lo]!)) rfl c27]
 refine Qab (Qaa (Qac (V:=I6 (i4:Int)) rfl (Qaa (Qac (V:=I6 (j4:Int)) rfl (Qaa (QbU rfl rfl (Qae (Qam (t:=decide ((j4:Int)<(i4:Int))) rfl (fun c28=>?_) (fun c28=>?_)))))))))
 ·
  replace c28:=QQ1 c28
  refine QaJ (Qag (QaH HM [some 153,some 154,some 155,some 156,some 157,some 158,some 159,some 160,some 161,some 162,some 163,some 164,some 165,none,some 166,none] [] [0,0,0,0,0,0,48,112,0,0,768,1792,4083,8179,16383,32767] [pv (.slice a N c),pv (I6 (j4:Int)),pv (.slice a N c),pv (I6 (lo:Int)),pv (.slice a N c),pv (I6 (lo:Int)),pv (.pointer (some ⟨bkS (.slice a N c),ofS (.slice a N c)+(lo:Int).toNat*1,none⟩)),pv (I7 (d1[lo]!)),pv (.slice a N c),pv (I6 (j4:Int)),pv (.pointer (some ⟨bkS (.slice a N c),ofS (.slice a N c)+(j4:Int).toNat*1,none⟩)),pv (I7 (d1[j4]!)),pv (.pointer (some ⟨bkS (.slice a N c),ofS (.slice a N c)+(j4:Int).toNat*1,none⟩)),pn,pv (.pointer (some ⟨bkS (.slice a N c),ofS (.slice a N c)+(lo:Int).toNat*1,none⟩)),pn] (fun D J=>[cond (D 15) (row (.slice a N c) ((((d1.setIfInBounds j4 (d1[lo]!)).setIfInBounds lo (d1[j4]!)).toList).map (ic .u16)) 32 1) (cond (D 13) (row (.slice a N c) (((d1.setIfInBounds j4 (d1[lo]!)).toList).map (ic .u16)) 32 1) (row (.slice a N c) (d1.toList.map (ic .u16)) 32 1))]) [] (by kernel_rfl) hs ⟨?_,?_,?_,?_,?_,?_,?_,?_,?_,?_,?_,?_,?_,?_,?_,?_,trivial⟩ ?_))
  ·exact oa [] fun D J w hs=>Qac (V:=.slice a N c) rfl (Zz hs)
  ·exact oa [] fun D J w hs=>Qac (V:=.int .i64 (j4:Int)) rfl (Zz hs)
  ·exact oa [] fun D J w hs=>Qac (V:=.slice a N c) rfl (Zz hs)
  ·exact oa [] fun D J w hs=>Qac (V:=.int .i64 (lo:Int)) rfl (Zz hs)
  ·exact oa [] fun D J w hs=>Qac (V:=.slice a N c) rfl (Zz hs)
  ·exact oa [] fun D J w hs=>Qac (V:=.int .i64 (lo:Int)) rfl (Zz hs)
  ·exact ob [4,5] [13,15] rfl rfl fun D J w hs=>Qaw QaK Qar.1 (hs.rd 0 rfl) rfl rfl (by omega) (by simp only [QQ6,QQ9,QQ5,Go.Sort.size_swp];omega) (Zz hs)
  ·exact ob [6] [13,15] rfl rfl fun D J w hs=>QaU (j:=0) (V:=I7 (d1[lo]!)) lo Qar (hs.rd 0 rfl) (Qbk (by omega)) rfl rfl (by omega) (Zz hs)
  ·exact oa [] fun D J w hs=>Qac (V:=.slice a N c) rfl (Zz hs)
  ·exact oa [] fun D J w hs=>Qac (V:=.int .i64 (j4:Int)) rfl (Zz hs)
  ·exact ob [8,9] [13,15] rfl rfl fun D J w hs=>Qaw QaK Qar.1 (hs.rd 0 rfl) rfl rfl (by omega) (by simp only [QQ6,QQ9,QQ5,Go.Sort.size_swp];omega) (Zz hs)
  ·exact ob [10] [13,15] rfl rfl fun D J w hs=>QaU (j:=0) (V:=I7 (d1[j4]!)) j4 Qar (hs.rd 0 rfl) (Qbk (by omega)) rfl rfl (by omega) (Zz hs)
  ·exact ob [0,1] [13,15] rfl rfl fun D J w hs=>Qaw QaK Qar.1 (hs.rd 0 rfl) rfl rfl (by omega) (by simp only [QQ6,QQ9,QQ5,Go.Sort.size_swp];omega) (Zz hs)
  ·exact ob [7,12] [15] rfl rfl fun D J w hs=>Qcj (z:=d1[lo]!) j4 Qar hs 0 rfl rfl (by omega) (by first|omega|(simp only [QQ5,Go.Sort.size_swp];omega)) rfl rfl rfl fun _ hs=>⟨trivial,hs⟩
  ·exact ob [2,3,13] [15] rfl rfl fun D J w hs=>Qaw QaK Qar.1 (hs.rd 0 rfl) rfl rfl (by omega) (by simp only [QQ6,QQ9,QQ5,Go.Sort.size_swp];omega) (Zz hs)
  ·exact oa [11,13,14] fun D J w hs=>Qcj (z:=d1[j4]!) lo Qar hs 0 rfl rfl (by omega) (by first|omega|(simp only [QQ5,Go.Sort.size_swp];omega)) rfl rfl rfl fun _ hs=>⟨trivial,hs⟩
  rintro J1 w31 J2 hJ hs
  replace hJ:J2=mix (sq 153 14) J1 _:=hJ
  replace hs:Own w S w31 [row (.slice a N c) ((((d1.setIfInBounds j4 (d1[lo]!)).setIfInBounds lo (d1[j4]!)).toList).map (ic .u16)) 32 1]:=hs
  subst hJ
  refine Qag (Qab (Qaa (Qac (V:=I6 (j4:Int)) rfl (Qaa (Qad (V:=I6 (j4:Int)) rfl (Qaa (Qad (V:=.bool false) rfl (Qae (Qav ?_)))))))))
  refine ⟨_,QbF (U:=I6 (j4:Int)) (V:=.bool false) Tryz.results180 rfl rfl,?_⟩
  have hX:partition ltInt d lo hi pvx=(j4,false,Sort.swp d1 j4 lo):=by rw [hpt,← hev,Qqp hi4 hj4 c28]
  rw [hX]
  exact ⟨(),rfl,hs.take 1,by first|(rw [Go.Sort.size_swp];assumption)|assumption⟩
 replace c28:=QQ2 c28
 refine Qap (Qag (QaH HM [some 135,some 136,some 137,some 138,some 139,some 140,some 141,some 142,some 143,some 144,some 145,some 146,some 147,none,some 148,none] [] [0,0,0,0,0,0,48,112,0,0,768,1792,4083,8179,16383,32767] [pv (.slice a N c),pv (I6 (i4:Int)),pv (.slice a N c),pv (I6 (j4:Int)),pv (.slice a N c),pv (I6 (j4:Int)),pv (.pointer (some ⟨bkS (.slice a N c),ofS (.slice a N c)+(j4:Int).toNat*1,none⟩)),pv (I7 (d1[j4]!)),pv (.slice a N c),pv (I6 (i4:Int)),pv (.pointer (some ⟨bkS (.slice a N c),ofS (.slice a N c)+(i4:Int).toNat*1,none⟩)),pv (I7 (d1[i4]!)),pv (.pointer (some ⟨bkS (.slice a N c),ofS (.slice a N c)+(i4:Int).toNat*1,none⟩)),pn,pv (.pointer (some ⟨bkS (.slice a N c),ofS (.slice a N c)+(j4:Int).toNat*1,none⟩)),pn] (fun D J=>[cond (D 15) (row (.slice a N c) ((((d1.setIfInBounds i4 (d1[j4]!)).setIfInBounds j4 (d1[i4]!)).toList).map (ic .u16)) 32 1) (cond (D 13) (row (.slice a N c) (((d1.setIfInBounds i4 (d1[j4]!)).toList).map (ic .u16)) 32 1) (row (.slice a N c) (d1.toList.map (ic .u16)) 32 1))]) [] (by kernel_rfl) hs ⟨?_,?_,?_,?_,?_,?_,?_,?_,?_,?_,?_,?_,?_,?_,?_,?_,trivial⟩ ?_))
 ·exact oa [] fun D J w hs=>Qac (V:=.slice a N c) rfl (Zz hs)
 ·exact oa [] fun D J w hs=>Qac (V:=.int .i64 (i4:Int)) rfl (Zz hs)
 ·exact oa [] fun D J w hs=>Qac (V:=.slice a N c) rfl (Zz hs)
 ·exact oa [] fun D J w hs=>Qac (V:=.int .i64 (j4:Int)) rfl (Zz hs)
 ·exact oa [] fun D J w hs=>Qac (V:=.slice a N c) rfl (Zz hs)
 ·exact oa [] fun D J w hs=>Qac (V:=.int .i64 (j4:Int)) rfl (Zz hs)
 ·exact ob [4,5] [13,15] rfl rfl fun D J w hs=>Qaw QaK Qar.1 (hs.rd 0 rfl) rfl rfl (by omega) (by simp only [QQ6,QQ9,QQ5,Go.Sort.size_swp];omega) (Zz hs)
 ·exact ob [6] [13,15] rfl rfl fun D J w hs=>QaU (j:=0) (V:=I7 (d1[j4]!)) j4 Qar (hs.rd 0 rfl) (Qbk (by omega)) rfl rfl (by omega) (Zz hs)
 ·exact oa [] fun D J w hs=>Qac (V:=.slice a N c) rfl (Zz hs)
 ·exact oa [] fun D J w hs=>Qac (V:=.int .i64 (i4:Int)) rfl (Zz hs)
 ·exact ob [8,9] [13,15] rfl rfl fun D J w hs=>Qaw QaK Qar.1 (hs.rd 0 rfl) rfl rfl (by omega) (by simp only [QQ6,QQ9,QQ5,Go.Sort.size_swp];omega) (Zz hs)
 ·exact ob [10] [13,15] rfl rfl fun D J w hs=>QaU (j:=0) (V:=I7 (d1[i4]!)) i4 Qar (hs.rd 0 rfl) (Qbk (by omega)) rfl rfl (by omega) (Zz hs)
 ·exact ob [0,1] [13,15] rfl rfl fun D J w hs=>Qaw QaK Qar.1 (hs.rd 0 rfl) rfl rfl (by omega) (by simp only [QQ6,QQ9,QQ5,Go.Sort.size_swp];omega) (Zz hs)
 ·exact ob [7,12] [15] rfl rfl fun D J w hs=>Qcj (z:=d1[j4]!) i4 Qar hs 0 rfl rfl (by omega) (by first|omega|(simp only [QQ5,Go.Sort.size_swp];omega)) rfl rfl rfl fun _ hs=>⟨trivial,hs⟩
 ·exact ob [2,3,13] [15] rfl rfl fun D J w hs=>Qaw QaK Qar.1 (hs.rd 0 rfl) rfl rfl (by omega) (by simp only [QQ6,QQ9,QQ5,Go.Sort.size_swp];omega) (Zz hs)
 ·exact oa [11,13,14] fun D J w hs=>Qcj (z:=d1[i4]!) j4 Qar hs 0 rfl rfl (by omega) (by first|omega|(simp only [QQ5,Go.Sort.size_swp];omega)) rfl rfl rfl fun _ hs=>⟨trivial,hs⟩
 rintro J1 w34 J2 hJ hs
 replace hJ:J2=mix (sq 135 14) J1 _:=hJ
 replace hs:Own w S w34 [row (.slice a N c) ((((d1.setIfInBounds i4 (d1[j4]!)).setIfInBounds j4 (d1[i4]!)).toList).map (ic .u16)) 32 1]:=hs
 subst hJ
 refine Qag (Qab (Qaa (Qac (V:=I6 (i4:Int)) rfl (Qaa (QaD (a:=(i4:Int)) (b:=1) (c:=((i4+1:Nat):Int)) rfl rfl (Qaj (by omega) (by omega)) (Qaa (Qad (V:=I6 ((i4+1:Nat):Int)) rfl (Qae (Qab (Qaa (Qac (V:=I6 (j4:Int)) rfl (Qaa (Qa3 (a:=(j4:Int)) (b:=1) (c:=((j4-1:Nat):Int)) rfl rfl (Qaj (by omega) (by omega)) (Qaa (Qad (V:=I6 ((j4-1:Nat):Int)) rfl (Qae ?_))))))))))))))))
 refine ⟨_,?_,_,i4+1,j4-1,((d1.setIfInBounds i4 (d1[j4]!)).setIfInBounds j4 (d1[i4]!)),Qak (Qak (Qao (ds:=([10,11]++sq 99 54)) (by repeat (first|exact Agr.refl _ _|refine Agr.upd ?_ rfl|refine Agr.mix ?_ rfl))) rfl) rfl,(by omega),(by omega),(by omega),(by simp only [QQ5];exact hz1),(by rw [← hev,QuT hi4 hj4 c28];rfl),rfl,hs.take 1⟩
 omega
end Tt
end Go.Proofs
namespace Go.Proofs
open Go Go.Vx Go.RowKit
namespace Tt
theorem Qvt (w:World) (S:Nat->Prop) (a:Option Addr) (N c:Nat) (d:Array Int) (hsz:d.size=N) (hN:N<=2305843009213693951) (lo hi:Nat) (h1:lo<=hi) (h2:hi<=N) (hxor:QrC Tryz.prog 163 211) (hpow:Qqw Tryz.prog 162) (hR:(row (.slice a N c) (d.toList.map (ic .u16)) 32 1).holds w S) (hlt:∀ x,S x->x<w.heap.size):Calls Tryz.prog 174 #[.slice a N c,.int .i64 (lo:Int),.int .i64 (hi:Int)] w (fun e w'=>∃ x:Unit,e = .returned (.tuple #[])/\Own w S w' [row (.slice a N c) ((Sort.breakPatterns d lo hi).toList.map (ic .u16)) 32 1]/\(Sort.breakPatterns d lo hi).size=N):=by
 refine Qai (n:=65) Tryz.func174 rfl Tryz.ntmps174 rfl ?_
 have hs:=Own.lent hR hlt
 refine Qag (Qab (Qaa (Qac (V:=I6 (hi:Int)) rfl (Qaa (Qac (V:=I6 (lo:Int)) rfl (Qaa (Qa3 (a:=(hi:Int)) (b:=(lo:Int)) (c:=((hi-lo:Nat):Int)) rfl rfl (Qaj (by omega) (by omega)) (Qaa (Qad (V:=I6 ((hi-lo:Nat):Int)) rfl (Qae (Qag (Qab (Qaa (Qac (V:=I6 ((hi-lo:Nat):Int)) rfl (Qaa (QcR rfl rfl (Qae (Qam (t:=decide (8<=((hi-lo:Nat):Int))) rfl (fun c1=>?_) (fun c1=>?_)))))))))))))))))))
 ·
  replace c1:=QQ1 c1
  refine Qag (Qab (Qaa (Qac (V:=I6 ((hi-lo:Nat):Int)) rfl (Qaa (Qcg QhH Qsr rfl (QdF (by omega) (by omega)) (Qaa (QaL (cs:=[.int .u64 0]) QsH rfl hs fun b2 w3 hs=>(Qaa (QcQ (V:=.int .u64 ((hi-lo:Nat):Int)) (cs':=[.int .u64 ((hi-lo:Nat):Int)]) Qs2 hs 1 rfl rfl rfl rfl (QQ8 rfl) rfl fun w4 hs=>(Qae (Qag (Qab (Qaa (Qac (V:=I6 ((hi-lo:Nat):Int)) rfl (Qaa (Qas (vs:=[I6 ((hi-lo:Nat):Int)]) (V:=.int .u64 ((1 <<< Sort.bitsLen (hi-lo):Nat):Int)) QtO rfl rfl ?hc hs fun w5 hs=>?_))))))))))))))))
  case hc=>exact (hpow _ (hi-lo) (by omega))
  refine Qaa (Qad (V:=.int .u64 ((1 <<< Sort.bitsLen (hi-lo):Nat):Int)) rfl (Qae (Qag (Qab (Qaa (Qac (V:=I6 (lo:Int)) rfl (Qaa (Qac (V:=I6 ((hi-lo:Nat):Int)) rfl (Qaa (QiK (a:=((hi-lo:Nat):Int)) (b:=4) (c:=(((hi-lo)/4:Nat):Int)) rfl rfl (by decide) (Qaj rfl (by omega)) (Qaa (Qgy (a:=(((hi-lo)/4:Nat):Int)) (b:=2) (c:=((((hi-lo)/4)*2:Nat):Int)) rfl rfl (Qaj (by omega) (by omega)) (Qaa (QaD (a:=(lo:Int)) (b:=((((hi-lo)/4)*2:Nat):Int)) (c:=((lo+(((hi-lo)/4)*2):Nat):Int)) rfl rfl (Qaj (by omega) (by omega)) (Qaa (Qa3 (a:=((lo+(((hi-lo)/4)*2):Nat):Int)) (b:=1) (c:=(((lo+(((hi-lo)/4)*2))-1:Nat):Int)) rfl rfl (Qaj (by omega) (by omega)) (Qaa (Qad (V:=I6 (((lo+(((hi-lo)/4)*2))-1:Nat):Int)) rfl (Qae (Qan ?_))))))))))))))))))))
  have hmd:=QtF (n:=hi-lo) (by omega)
  have hu:(UInt64.ofNat (hi-lo)).toNat=hi-lo:=UInt64.toNat_ofNat_of_lt (by show hi-lo<18446744073709551616;omega)
  replace hs:=hs.conv 1 rfl (R':=blk b2 [.int .u64 (((UInt64.ofNat (hi-lo)).toNat:Nat):Int)] 211) (fun S h=>by rw [hu];exact h)
  refine QaC (fun J μ J' w'=>∃ (Jo:Env) (q:Nat) (st:UInt64 × Array Int),J'=upd (mix ([9,10]++sq 26 39) Jo J) 9 (I6 (((lo+((hi-lo)/4)*2-1)+q:Nat):Int))/\(q<=3)/\(st=bpS lo (hi-lo) (1 <<< Sort.bitsLen (hi-lo)) (UInt64.ofNat (hi-lo),d) (lo+((hi-lo)/4)*2-1) (q))/\(st.2.size=N)/\μ=3-q/\Own w S w' [row (.slice a N c) (st.2.toList.map (ic .u16)) 32 1,blk b2 [.int .u64 ((st.1.toNat:Nat):Int)] 211]) ?_ ?_
  ·exact ⟨_,_,0,(UInt64.ofNat (hi-lo),d),Qak (Qao (ds:=([9,10]++sq 26 39)) (Agr.refl _ _)) rfl,(by omega),rfl,hsz,rfl,hs⟩
  rintro μ J' w6 ⟨Jo,q,st,rfl,hq,hst,hzs,rfl,hs⟩
  refine Qag (Qag (Qab (Qaa (Qac (V:=I6 (((lo+((hi-lo)/4)*2-1)+q:Nat):Int)) rfl (Qaa (Qac (V:=I6 (lo:Int)) rfl (Qaa (Qac (V:=I6 ((hi-lo:Nat):Int)) rfl (Qaa (QiK (a:=((hi-lo:Nat):Int)) (b:=4) (c:=(((hi-lo)/4:Nat):Int)) rfl rfl (by decide) (Qaj rfl (by omega)) (Qaa (Qgy (a:=(((hi-lo)/4:Nat):Int)) (b:=2) (c:=((((hi-lo)/4)*2:Nat):Int)) rfl rfl (Qaj (by omega) (by omega)) (Qaa (QaD (a:=(lo:Int)) (b:=((((hi-lo)/4)*2:Nat):Int)) (c:=((lo+(((hi-lo)/4)*2):Nat):Int)) rfl rfl (Qaj (by omega) (by omega)) (Qaa (QaD (a:=((lo+(((hi-lo)/4)*2):Nat):Int)) (b:=1) (c:=(((lo+(((hi-lo)/4)*2))+1:Nat):Int)) rfl rfl (Qaj (by omega) (by omega)) (Qaa (QdS rfl rfl (Qae (Qam (t:=decide ((((lo+((hi-lo)/4)*2-1)+q:Nat):Int)<=(((lo+(((hi-lo)/4)*2))+1:Nat):Int))) rfl (fun c7=>?_) (fun c7=>?_)))))))))))))))))))))
  ·
   replace c7:=QQ1 c7
   refine Qap (Qag (Qan (Qag ?_)))
   have hand:=Nat.and_le_right (n:=Sort.xorNextN st.1.toNat) (m:=1 <<< Sort.bitsLen (hi-lo)-1)
   refine Qab (Qaa (Qbs (vs:=[Pq b2 0]) (V:=fun _:Unit=>.int .u64 ((Sort.xorNextN st.1.toNat:Nat):Int)) (R:=blk b2 [.int .u64 ((st.1.toNat:Nat):Int)] 211) (R':=fun _=>blk b2 [.int .u64 ((Sort.xorNextN st.1.toNat:Nat):Int)] 211) (Lo:=fun _=>[]) (F:=fun _ _=>True) Qs8 rfl rfl hs 1 rfl (fun S hS hlt=>hxor _ S b2 st.1.toNat (by first|omega|exact UInt64.toNat_lt _) hS hlt) fun _ w8 hs _=>(Qaa (Qac (V:=.int .u64 ((1 <<< Sort.bitsLen (hi-lo):Nat):Int)) rfl (Qaa (QaX (V:=.int .u64 (((1 <<< Sort.bitsLen (hi-lo):Nat):Int)-1)) (V':=.int .u64 ((1 <<< Sort.bitsLen (hi-lo)-1:Nat):Int)) (Qa3 (a:=((1 <<< Sort.bitsLen (hi-lo):Nat):Int)) (b:=1) (c:=((1 <<< Sort.bitsLen (hi-lo):Nat):Int)-1) rfl rfl (QdF (by omega) (by omega)) ⟨rfl,rfl⟩) (congrArg (Value.int .u64) (by omega)) (Qaa (QaX (V:=.int .u64 (bits .and .u64 ((Sort.xorNextN st.1.toNat:Nat):Int) ((1 <<< Sort.bitsLen (hi-lo)-1:Nat):Int))) (V':=.int .u64 ((Sort.xorNextN st.1.toNat &&& (1 <<< Sort.bitsLen (hi-lo)-1):Nat):Int)) (QsT rfl rfl ⟨rfl,rfl⟩) (congrArg (Value.int .u64) (Qqf (Sort.xorNextN_lt _ (UInt64.toNat_lt _)) (by omega))) (Qaa (Qcg Qc8 QhH rfl (QbE (by omega) (by omega)) (Qaa (Qad (V:=I6 ((Sort.xorNextN st.1.toNat &&& (1 <<< Sort.bitsLen (hi-lo)-1):Nat):Int)) rfl (Qae (Qag (Qag (Qab (Qaa (Qac (V:=I6 ((Sort.xorNextN st.1.toNat &&& (1 <<< Sort.bitsLen (hi-lo)-1):Nat):Int)) rfl (Qaa (Qac (V:=I6 ((hi-lo:Nat):Int)) rfl (Qaa (QcR rfl rfl (Qae (Qfs (fun J J' w'=>∃ (Jo:Env) (ot:Nat),J'=upd (mix [10,44,45,46] Jo J) 10 (I6 (ot:Int))/\(ot=QfP lo (hi-lo) (1 <<< Sort.bitsLen (hi-lo)) st.1.toNat)/\Own w S w' [row (.slice a N c) (st.2.toList.map (ic .u16)) 32 1,blk b2 [.int .u64 ((Sort.xorNextN st.1.toNat:Nat):Int)] 211]) ?_ ?_))))))))))))))))))))))))
   ·
    refine Qam (t:=decide (((hi-lo:Nat):Int)<=((Sort.xorNextN st.1.toNat &&& (1 <<< Sort.bitsLen (hi-lo)-1):Nat):Int))) rfl (fun c9=>?_) (fun c9=>?_)
    ·
     replace c9:=QQ1 c9
     refine Qab (Qaa (Qac (V:=I6 ((Sort.xorNextN st.1.toNat &&& (1 <<< Sort.bitsLen (hi-lo)-1):Nat):Int)) rfl (Qaa (Qac (V:=I6 ((hi-lo:Nat):Int)) rfl (Qaa (Qa3 (a:=((Sort.xorNextN st.1.toNat &&& (1 <<< Sort.bitsLen (hi-lo)-1):Nat):Int)) (b:=((hi-lo:Nat):Int)) (c:=(((Sort.xorNextN st.1.toNat &&& (1 <<< Sort.bitsLen (hi-lo)-1))-(hi-lo):Nat):Int)) rfl rfl (Qaj (by omega) (by omega)) (Qaa (Qad (V:=I6 (((Sort.xorNextN st.1.toNat &&& (1 <<< Sort.bitsLen (hi-lo)-1))-(hi-lo):Nat):Int)) rfl (Qae ?_)))))))))
     exact ⟨_,(Sort.xorNextN st.1.toNat &&& (1 <<< Sort.bitsLen (hi-lo)-1))-(hi-lo),Qak (Qao (ds:=[10,44,45,46]) (by repeat (first|exact Agr.refl _ _|refine Agr.upd ?_ rfl|refine Agr.mix ?_ rfl))) rfl,(by unfold QfP;rw [if_pos (by omega)]),hs.take 2⟩
    replace c9:=QQ2 c9
    refine Qap ?_
    exact ⟨_,Sort.xorNextN st.1.toNat &&& (1 <<< Sort.bitsLen (hi-lo)-1),Qak (Qao (ds:=[10,44,45,46]) (by repeat (first|exact Agr.refl _ _|refine Agr.upd ?_ rfl|refine Agr.mix ?_ rfl))) rfl,(by unfold QfP;rw [if_neg (by omega)]),hs.take 2⟩
   rintro J' w10 ⟨Jo,ot,rfl,hot,hs⟩
   have hol:=Qn0 (lo:=lo) (len:=hi-lo) (r:=st.1.toNat) (by omega)
   rw [← hot] at hol
   refine QaH HM [some 47,some 48,some 49,some 50,some 51,some 52,some 53,some 54,some 55,some 56,some 57,some 58,some 59,some 60,some 61,some 62,some 63,none,some 64,none] [] [0,0,0,0,0,24,0,0,0,384,960,1984,0,0,12288,28672,65475,131011,262143,524287] [pv (.slice a N c),pv (I6 (((lo+((hi-lo)/4)*2-1)+q:Nat):Int)),pv (.slice a N c),pv (I6 (lo:Int)),pv (I6 (ot:Int)),pv (I6 ((lo+ot:Nat):Int)),pv (.slice a N c),pv (I6 (lo:Int)),pv (I6 (ot:Int)),pv (I6 ((lo+ot:Nat):Int)),pv (.pointer (some ⟨bkS (.slice a N c),ofS (.slice a N c)+((lo+ot:Nat):Int).toNat*1,none⟩)),pv (I7 (st.2[lo+ot]!)),pv (.slice a N c),pv (I6 (((lo+((hi-lo)/4)*2-1)+q:Nat):Int)),pv (.pointer (some ⟨bkS (.slice a N c),ofS (.slice a N c)+(((lo+((hi-lo)/4)*2-1)+q:Nat):Int).toNat*1,none⟩)),pv (I7 (st.2[(lo+((hi-lo)/4)*2-1)+q]!)),pv (.pointer (some ⟨bkS (.slice a N c),ofS (.slice a N c)+(((lo+((hi-lo)/4)*2-1)+q:Nat):Int).toNat*1,none⟩)),pn,pv (.pointer (some ⟨bkS (.slice a N c),ofS (.slice a N c)+((lo+ot:Nat):Int).toNat*1,none⟩)),pn] (fun D J=>[cond (D 19) (row (.slice a N c) ((((st.2.setIfInBounds ((lo+((hi-lo)/4)*2-1)+q) (st.2[lo+ot]!)).setIfInBounds (lo+ot) (st.2[(lo+((hi-lo)/4)*2-1)+q]!)).toList).map (ic .u16)) 32 1) (cond (D 17) (row (.slice a N c) (((st.2.setIfInBounds ((lo+((hi-lo)/4)*2-1)+q) (st.2[lo+ot]!)).toList).map (ic .u16)) 32 1) (row (.slice a N c) (st.2.toList.map (ic .u16)) 32 1)),blk b2 [.int .u64 ((Sort.xorNextN st.1.toNat:Nat):Int)] 211]) [] (by kernel_rfl) hs ⟨?_,?_,?_,?_,?_,?_,?_,?_,?_,?_,?_,?_,?_,?_,?_,?_,?_,?_,?_,?_,trivial⟩ ?_
   ·exact oa [] fun D J w hs=>Qac (V:=.slice a N c) rfl (Zz hs)
   ·exact oa [] fun D J w hs=>Qac (V:=.int .i64 (((lo+((hi-lo)/4)*2-1)+q:Nat):Int)) rfl (Zz hs)
   ·exact oa [] fun D J w hs=>Qac (V:=.slice a N c) rfl (Zz hs)
   ·exact oa [] fun D J w hs=>Qac (V:=.int .i64 (lo:Int)) rfl (Zz hs)
   ·exact oa [] fun D J w hs=>Qac (V:=.int .i64 (ot:Int)) rfl (Zz hs)
   ·exact oa [3,4] fun D J w hs=>QaD (a:=(lo:Int)) (b:=(ot:Int)) (c:=((lo+ot:Nat):Int)) rfl rfl (Qaj (by omega) (by omega)) (Zz hs)
   ·exact oa [] fun D J w hs=>Qac (V:=.slice a N c) rfl (Zz hs)
   ·exact oa [] fun D J w hs=>Qac (V:=.int .i64 (lo:Int)) rfl (Zz hs)
   ·exact oa [] fun D J w hs=>Qac (V:=.int .i64 (ot:Int)) rfl (Zz hs)
   ·exact oa [7,8] fun D J w hs=>QaD (a:=(lo:Int)) (b:=(ot:Int)) (c:=((lo+ot:Nat):Int)) rfl rfl (Qaj (by omega) (by omega)) (Zz hs)
   ·exact ob [6,9] [17,19] rfl rfl fun D J w hs=>Qaw QaK Qar.1 (hs.rd 0 rfl) rfl rfl (by omega) (by simp only [QQ6,QQ9,QQ5,Go.Sort.size_swp];omega) (Zz hs)
   ·exact ob [10] [17,19] rfl rfl fun D J w hs=>QaU (j:=0) (V:=I7 (st.2[lo+ot]!)) (lo+ot) Qar (hs.rd 0 rfl) (Qbk (by omega)) rfl rfl (by omega) (Zz hs)
   ·exact oa [] fun D J w hs=>Qac (V:=.slice a N c) rfl (Zz hs)
   ·exact oa [] fun D J w hs=>Qac (V:=.int .i64 (((lo+((hi-lo)/4)*2-1)+q:Nat):Int)) rfl (Zz hs)
   ·exact ob [12,13] [17,19] rfl rfl fun D J w hs=>Qaw QaK Qar.1 (hs.rd 0 rfl) rfl rfl (by omega) (by simp only [QQ6,QQ9,QQ5,Go.Sort.size_swp];omega) (Zz hs)
   ·exact ob [14] [17,19] rfl rfl fun D J w hs=>QaU (j:=0) (V:=I7 (st.2[(lo+((hi-lo)/4)*2-1)+q]!)) ((lo+((hi-lo)/4)*2-1)+q) Qar (hs.rd 0 rfl) (Qbk (by omega)) rfl rfl (by omega) (Zz hs)
   ·exact ob [0,1] [17,19] rfl rfl fun D J w hs=>Qaw QaK Qar.1 (hs.rd 0 rfl) rfl rfl (by omega) (by simp only [QQ6,QQ9,QQ5,Go.Sort.size_swp];omega) (Zz hs)
   ·exact ob [11,16] [19] rfl rfl fun D J w hs=>Qcj (z:=st.2[lo+ot]!) ((lo+((hi-lo)/4)*2-1)+q) Qar hs 0 rfl rfl (by omega) (by first|omega|(simp only [QQ5,Go.Sort.size_swp];omega)) rfl rfl rfl fun _ hs=>⟨trivial,hs⟩
   ·exact ob [2,5,17] [19] rfl rfl fun D J w hs=>Qaw QaK Qar.1 (hs.rd 0 rfl) rfl rfl (by omega) (by simp only [QQ6,QQ9,QQ5,Go.Sort.size_swp];omega) (Zz hs)
   ·exact oa [15,17,18] fun D J w hs=>Qcj (z:=st.2[(lo+((hi-lo)/4)*2-1)+q]!) (lo+ot) Qar hs 0 rfl rfl (by omega) (by first|omega|(simp only [QQ5,Go.Sort.size_swp];omega)) rfl rfl rfl fun _ hs=>⟨trivial,hs⟩
   rintro J1 w13 J2 hJ hs
   replace hJ:J2=mix (sq 47 18) J1 _:=hJ
   replace hs:Own w S w13 [row (.slice a N c) ((((st.2.setIfInBounds ((lo+((hi-lo)/4)*2-1)+q) (st.2[lo+ot]!)).setIfInBounds (lo+ot) (st.2[(lo+((hi-lo)/4)*2-1)+q]!)).toList).map (ic .u16)) 32 1,blk b2 [.int .u64 ((Sort.xorNextN st.1.toNat:Nat):Int)] 211]:=hs
   subst hJ
   refine Qab (Qaa (Qac (V:=I6 (((lo+((hi-lo)/4)*2-1)+q:Nat):Int)) rfl (Qaa (QaD (a:=(((lo+((hi-lo)/4)*2-1)+q:Nat):Int)) (b:=1) (c:=((((lo+((hi-lo)/4)*2-1)+q)+1:Nat):Int)) rfl rfl (Qaj (by omega) (by omega)) (Qaa (Qad (V:=I6 ((((lo+((hi-lo)/4)*2-1)+q)+1:Nat):Int)) rfl (Qae ?_)))))))
   have hbn:=Qjx (lo:=lo) (len:=hi-lo) (md:=1 <<< Sort.bitsLen (hi-lo)) (i0:=lo+((hi-lo)/4)*2-1) (q:=q) (s0:=(UInt64.ofNat (hi-lo),d))
   rw [← hst] at hbn
   replace hs:=hs.conv 1 rfl (R':=blk b2 [.int .u64 (((bpS lo (hi-lo) (1 <<< Sort.bitsLen (hi-lo)) (UInt64.ofNat (hi-lo),d) (lo+((hi-lo)/4)*2-1) (q+1)).1.toNat:Nat):Int)] 211) (fun S h=>by rw [hbn.1];exact h)
   replace hs:=hs.conv 0 rfl (R':=row (.slice a N c) (((bpS lo (hi-lo) (1 <<< Sort.bitsLen (hi-lo)) (UInt64.ofNat (hi-lo),d) (lo+((hi-lo)/4)*2-1) (q+1)).2).toList.map (ic .u16)) 32 1) (fun S h=>by rw [hbn.2,← hot];exact h)
   refine ⟨_,?_,_,q+1,bpS lo (hi-lo) (1 <<< Sort.bitsLen (hi-lo)) (UInt64.ofNat (hi-lo),d) (lo+((hi-lo)/4)*2-1) (q+1),Qak (Qao (ds:=([9,10]++sq 26 39)) (by repeat (first|exact Agr.refl _ _|refine Agr.upd ?_ rfl|refine Agr.mix ?_ rfl))) rfl,(by omega),rfl,(Qkj (s0:=(UInt64.ofNat (hi-lo),d)) hsz _),rfl,hs.take 2⟩
   omega
  replace c7:=QQ2 c7
  refine QaJ ?_
  refine ⟨_,Qbd Tryz.results174,?_⟩
  have hq3:q=3:=by omega
  subst hq3
  have hX:st.2=Sort.breakPatterns d lo hi:=by rw [hst];exact Qq2 (by omega)
  exact ⟨(),rfl,hX ▸ hs.take 1,hX ▸ (by first|assumption|(simp only [QQ5,Go.Sort.size_swp];omega))⟩
 replace c1:=QQ2 c1
 refine Qap ?_
 refine ⟨_,Qbd Tryz.results174,?_⟩
 have hX:d=Sort.breakPatterns d lo hi:=by unfold Sort.breakPatterns;dsimp only;rw [if_neg (by omega)]
 exact ⟨(),rfl,hX ▸ hs.take 1,hX ▸ (by first|assumption|(simp only [QQ5,Go.Sort.size_swp];omega))⟩
end Tt
end Go.Proofs
namespace Go.Proofs
open Go Go.Vx Go.RowKit
open Go.Sort (ltInt medianAdjacent order2 partition)
namespace Tt
theorem QvG:Sort.SWO ltInt:=Sort.swo_ltInt
theorem QnI {d:Array Int} {lo hi pvx:Nat} (h1:lo<=pvx) (h2:pvx<hi) (h3:hi<=d.size):lo<(Sort.partitionEqual ltInt d lo hi pvx).1/\(Sort.partitionEqual ltInt d lo hi pvx).1<=hi:=by
 have:=Sort.partEqLoop_spec ltInt lo hi (hi-1+1-(lo+1)) (lo+1) (hi-1) (Sort.swp d lo pvx) (Nat.le_refl _) (by omega) (by omega) (by omega) (by rw [Sort.size_swp];exact h3) (fun t a b=>by omega) (fun t a b=>by omega)
 exact ⟨this.1,this.2.1⟩
theorem Qom {d:Array Int} {lo hi pvx:Nat} (h1:lo<=pvx) (h2:pvx<hi) (h3:hi<=d.size):lo<=(partition ltInt d lo hi pvx).1/\(partition ltInt d lo hi pvx).1<hi:=by
 have:=Sort.partition_holds (lt:=ltInt) QvG d lo hi pvx h1 h2 h3
 exact ⟨this.1,this.2.1⟩
theorem Qkm {x:Sort.Hint}:Qcy x=1↔x = .increasing:=by cases x<;>simp [Qcy]
theorem Qjn {x:Sort.Hint}:Qcy x=2↔x = .decreasing:=by cases x<;>simp [Qcy]
section
variable {l h lim2 lim3 pvx:Nat} {wb wp b:Bool} {d1 d2 d3 d4:Array Int}
theorem QpK (hw:wb=false):Sort.breakPatterns d1 l h=(Sort.rd ltInt d1 l h lim2 wb wp).d1/\lim2-1=(Sort.rd ltInt d1 l h lim2 wb wp).lim:=by subst hw;exact ⟨rfl,rfl⟩
theorem QsL (hw:wb=true):d1=(Sort.rd ltInt d1 l h lim2 wb wp).d1/\lim2=(Sort.rd ltInt d1 l h lim2 wb wp).lim:=by subst hw;exact ⟨rfl,rfl⟩
theorem QjJ (h2:d2=(Sort.rd ltInt d1 l h lim2 wb wp).d1) (hh:Qcy (Sort.choosePivot ltInt d2 l h).2=2):Sort.reverseRange d2 l h=(Sort.rd ltInt d1 l h lim2 wb wp).d2/\(h-1)-((Sort.choosePivot ltInt d2 l h).1-l)=(Sort.rd ltInt d1 l h lim2 wb wp).pivot/\(1:Int)=Qcy (Sort.rd ltInt d1 l h lim2 wb wp).hint:=by
 rw [Qjn] at hh
 subst h2
 have hc:(Sort.rd ltInt d1 l h lim2 wb wp).c.2 = .decreasing:=hh
 refine ⟨?_,?_,?_⟩
 ·show _=if (Sort.rd ltInt d1 l h lim2 wb wp).c.2 = .decreasing then _ else _
  rw [if_pos hc];rfl
 ·show _=if (Sort.rd ltInt d1 l h lim2 wb wp).c.2 = .decreasing then _ else _
  rw [if_pos hc];rfl
 show _=Qcy (if (Sort.rd ltInt d1 l h lim2 wb wp).c.2 = .decreasing then Sort.Hint.increasing else _)
 rw [if_pos hc];rfl
theorem QjO (h2:d2=(Sort.rd ltInt d1 l h lim2 wb wp).d1) (hh:¬Qcy (Sort.choosePivot ltInt d2 l h).2=2):d2=(Sort.rd ltInt d1 l h lim2 wb wp).d2/\(Sort.choosePivot ltInt d2 l h).1=(Sort.rd ltInt d1 l h lim2 wb wp).pivot/\Qcy (Sort.choosePivot ltInt d2 l h).2=Qcy (Sort.rd ltInt d1 l h lim2 wb wp).hint:=by
 rw [Qjn] at hh
 subst h2
 have hc:¬(Sort.rd ltInt d1 l h lim2 wb wp).c.2 = .decreasing:=hh
 refine ⟨?_,?_,?_⟩
 ·show _=if (Sort.rd ltInt d1 l h lim2 wb wp).c.2 = .decreasing then _ else _
  rw [if_neg hc];rfl
 ·show _=if (Sort.rd ltInt d1 l h lim2 wb wp).c.2 = .decreasing then _ else _
  rw [if_neg hc];rfl
 show _=Qcy (if (Sort.rd ltInt d1 l h lim2 wb wp).c.2 = .decreasing then Sort.Hint.increasing else _)
 rw [if_neg hc];rfl
theorem QsD (h3:d3=(Sort.rd ltInt d1 l h lim2 wb wp).d2) (hw:wb=true) (hp:wp=true) (hh:Qcy (Sort.rd ltInt d1 l h lim2 wb wp).hint=1):(Sort.rd ltInt d1 l h lim2 wb wp).pi=Sort.partialInsertionSort ltInt d3 l h:=by
 rw [Qkm] at hh
 subst h3
 have hc:(wb&&wp&&decide ((Sort.rd ltInt d1 l h lim2 wb wp).hint = .increasing))=true:=by rw [QQ3 hh,hw,hp];rfl
 show (if (wb&&wp&&decide ((Sort.rd ltInt d1 l h lim2 wb wp).hint = .increasing))=true then _ else _)=_
 rw [if_pos hc];rfl
theorem Qrk (h3:d3=(Sort.rd ltInt d1 l h lim2 wb wp).d2) (hh:((wb&&wp)&&decide (Qcy (Sort.rd ltInt d1 l h lim2 wb wp).hint=1))=false):(Sort.rd ltInt d1 l h lim2 wb wp).pi=(d3,false):=by
 subst h3
 have hc:(wb&&wp&&decide ((Sort.rd ltInt d1 l h lim2 wb wp).hint = .increasing))=false:=by rw [← hh];congr 1;exact decide_eq_decide.2 Qkm.symm
 show (if (wb&&wp&&decide ((Sort.rd ltInt d1 l h lim2 wb wp).hint = .increasing))=true then _ else _)=_
 rw [if_neg (by rw [hc];exact Bool.false_ne_true)];rfl
theorem Qoa (hs:((h-l:Nat):Int)<=12):Sort.pdq ltInt d1 l h lim2 wb wp=Sort.insertionSort ltInt d1 l h:=Sort.pdq_small (by omega)
theorem Qrx (hs:¬((h-l:Nat):Int)<=12) (h0:(lim2:Int)=0):Sort.pdq ltInt d1 l h lim2 wb wp=Sort.heapSort ltInt d1 l h:=Sort.pdq_heap (by omega) (by omega)
theorem QrL (hs:¬((h-l:Nat):Int)<=12) (h0:¬(lim2:Int)=0) (hp:(Sort.rd ltInt d1 l h lim2 wb wp).pi.2=true):Sort.pdq ltInt d1 l h lim2 wb wp=(Sort.rd ltInt d1 l h lim2 wb wp).pi.1:=Sort.pdq_done (by omega) (by omega) hp
theorem QuG {x y:Int} (hb:(decide (0<(l:Int))&&!decide (x<y))=b):(decide (l > 0)&&!ltInt x y)=b:=by
 rw [← hb];congr 1;exact decide_eq_decide.2 (by omega)
theorem Qvd (hs:¬((h-l:Nat):Int)<=12) (h0:¬(lim2:Int)=0) (hd4:d4=(Sort.rd ltInt d1 l h lim2 wb wp).pi.1) (hp:(Sort.rd ltInt d1 l h lim2 wb wp).pi.2=false) (hpv:pvx=(Sort.rd ltInt d1 l h lim2 wb wp).pivot) (hl:lim3=(Sort.rd ltInt d1 l h lim2 wb wp).lim) (h2:(decide (0<(l:Int))&&!decide (d4[l-1]!<d4[pvx]!))=true) (hr:l<(Sort.partitionEqual ltInt d4 l h pvx).1/\(Sort.partitionEqual ltInt d4 l h pvx).1<=h) :
  Sort.pdq ltInt d1 l h lim2 wb wp=Sort.pdq ltInt (Sort.partitionEqual ltInt d4 l h pvx).2 (Sort.partitionEqual ltInt d4 l h pvx).1 h lim3 wb wp:=by
 subst hd4 hpv hl;exact Sort.pdq_eq (by omega) (by omega) hp (QuG h2) hr
theorem QqY (hs:¬((h-l:Nat):Int)<=12) (h0:¬(lim2:Int)=0) (hd4:d4=(Sort.rd ltInt d1 l h lim2 wb wp).pi.1) (hp:(Sort.rd ltInt d1 l h lim2 wb wp).pi.2=false) (hpv:pvx=(Sort.rd ltInt d1 l h lim2 wb wp).pivot) (hl:lim3=(Sort.rd ltInt d1 l h lim2 wb wp).lim) (h2:(decide (0<(l:Int))&&!decide (d4[l-1]!<d4[pvx]!))=false) (hr:l<=(partition ltInt d4 l h pvx).1/\(partition ltInt d4 l h pvx).1<h)
  (h4:(((partition ltInt d4 l h pvx).1-l:Nat):Int)<((h-(partition ltInt d4 l h pvx).1:Nat):Int)) :
  Sort.pdq ltInt d1 l h lim2 wb wp=Sort.pdq ltInt (Sort.pdq ltInt (partition ltInt d4 l h pvx).2.2 l (partition ltInt d4 l h pvx).1 lim3 true true) ((partition ltInt d4 l h pvx).1+1) h lim3 (decide ((partition ltInt d4 l h pvx).1-l ≥ (h-l)/8)) (partition ltInt d4 l h pvx).2.1:=by
 subst hd4 hpv hl;exact Sort.pdq_left (by omega) (by omega) hp (QuG h2) hr (by omega)
theorem QoM (hs:¬((h-l:Nat):Int)<=12) (h0:¬(lim2:Int)=0) (hd4:d4=(Sort.rd ltInt d1 l h lim2 wb wp).pi.1) (hp:(Sort.rd ltInt d1 l h lim2 wb wp).pi.2=false) (hpv:pvx=(Sort.rd ltInt d1 l h lim2 wb wp).pivot) (hl:lim3=(Sort.rd ltInt d1 l h lim2 wb wp).lim) (h2:(decide (0<(l:Int))&&!decide (d4[l-1]!<d4[pvx]!))=false) (hr:l<=(partition ltInt d4 l h pvx).1/\(partition ltInt d4 l h pvx).1<h)
  (h4:¬(((partition ltInt d4 l h pvx).1-l:Nat):Int)<((h-(partition ltInt d4 l h pvx).1:Nat):Int)) :
  Sort.pdq ltInt d1 l h lim2 wb wp=Sort.pdq ltInt (Sort.pdq ltInt (partition ltInt d4 l h pvx).2.2 ((partition ltInt d4 l h pvx).1+1) h lim3 true true) l (partition ltInt d4 l h pvx).1 lim3 (decide (h-(partition ltInt d4 l h pvx).1 ≥ (h-l)/8)) (partition ltInt d4 l h pvx).2.1:=by
 subst hd4 hpv hl;exact Sort.pdq_right (by omega) (by omega) hp (QuG h2) hr (by omega)
end
def QtU (n:Nat):Prop:=∀ (w:World) (S:Nat->Prop) (a:Option Addr) (N c:Nat) (d:Array Int) (hsz:d.size=N) (hN:N<=2305843009213693951) (lo hi lim:Nat) (h1:lo<=hi) (h2:hi<=N) (hlim:lim<=4611686018427387904) (hlen:hi-lo<n) (hR:(row (.slice a N c) (d.toList.map (ic .u16)) 32 1).holds w S) (hlt:∀ x,S x->x<w.heap.size),Calls Tryz.prog 160 #[.slice a N c,.int .i64 (lo:Int),.int .i64 (hi:Int),.int .i64 (lim:Int)] w (fun e w'=>∃ x:Unit,e = .returned (.tuple #[])/\Own w S w' [row (.slice a N c) ((Sort.pdq ltInt d lo hi lim true true).toList.map (ic .u16)) 32 1]/\(Sort.pdq ltInt d lo hi lim true true).size=N)
theorem QnY (n:Nat) (ih:QtU n) (w:World) (S:Nat->Prop) (a:Option Addr) (N c:Nat) (d:Array Int) (hsz:d.size=N) (hN:N<=2305843009213693951) (lo hi lim:Nat) (h1:lo<=hi) (h2:hi<=N) (hxor:QrC Tryz.prog 163 211) (hpow:Qqw Tryz.prog 162) (hlim:lim<=4611686018427387904) (hlen:hi-lo<n+1) (hR:(row (.slice a N c) (d.toList.map (ic .u16)) 32 1).holds w S) (hlt:∀ x,S x->x<w.heap.size):Calls Tryz.prog 160 #[.slice a N c,.int .i64 (lo:Int),.int .i64 (hi:Int),.int .i64 (lim:Int)] w (fun e w'=>∃ x:Unit,e = .returned (.tuple #[])/\Own w S w' [row (.slice a N c) ((Sort.pdq ltInt d lo hi lim true true).toList.map (ic .u16)) 32 1]/\(Sort.pdq ltInt d lo hi lim true true).size=N):=by
 refine Qai (n:=134) Tryz.func160 rfl Tryz.ntmps160 rfl ?_
 have hs:=Own.lent hR hlt
 refine Qag (Qab (Qaa (Qad (V:=.bool true) rfl (Qae (Qag (Qab (Qaa (Qad (V:=.bool true) rfl (Qae (Qan (QaC (fun J μ J' w'=>∃ (Jo:Env) (l:Nat) (h:Nat) (lim2:Nat) (wb:Bool) (wp:Bool) (d1:Array Int),J'=upd (upd (upd (upd (upd (mix ([1,2,3]++sq 8 126) Jo J) 1 (I6 (l:Int))) 2 (I6 (h:Int))) 3 (I6 (lim2:Int))) 8 (.bool wb)) 9 (.bool wp)/\(l<=h)/\(h<=N)/\(h-l<=hi-lo)/\(lim2<=4611686018427387904)/\(d1.size=N)/\(Sort.pdq ltInt d1 l h lim2 wb wp=Sort.pdq ltInt d lo hi lim true true)/\μ=h-l/\Own w S w' [row (.slice a N c) (d1.toList.map (ic .u16)) 32 1]) ?_ ?_)))))))))))
 ·exact ⟨_,_,lo,hi,lim,true,true,d,Qak (Qak (Qak (Qak (Qak (Qao (ds:=([1,2,3]++sq 8 126)) (Agr.refl _ _)) rfl) rfl) rfl) rfl) rfl,h1,h2,(Nat.le_refl _),hlim,hsz,rfl,rfl,hs⟩
 rintro μ J' w1 ⟨Jo,l,h,lim2,wb,wp,d1,rfl,hlh,hhN,hlen2,hlim2,hz1,hev,rfl,hs⟩
 refine Qan (Qag (Qab (Qaa (Qac (V:=I6 (h:Int)) rfl (Qaa (Qac (V:=I6 (l:Int)) rfl (Qaa (Qa3 (a:=(h:Int)) (b:=(l:Int)) (c:=((h-l:Nat):Int)) rfl rfl (Qaj (by omega) (by omega)) (Qaa (Qad (V:=I6 ((h-l:Nat):Int)) rfl (Qae (Qag (Qag (Qab (Qaa (Qac (V:=I6 ((h-l:Nat):Int)) rfl (Qaa (QdS rfl rfl (Qae (Qam (t:=decide (((h-l:Nat):Int)<=12)) rfl (fun c2=>?_) (fun c2=>?_)))))))))))))))))))))
 ·
  replace c2:=QQ1 c2
  refine Qag (Qab (Qaa (Qac (V:=.slice a N c) rfl (Qaa (Qac (V:=I6 (l:Int)) rfl (Qaa (Qac (V:=I6 (h:Int)) rfl (Qaa (Qbs (vs:=[.slice a N c,I6 (l:Int),I6 (h:Int)]) (V:=fun _:Unit=>.tuple #[]) (R:=row (.slice a N c) (d1.toList.map (ic .u16)) 32 1) (R':=fun _=>row (.slice a N c) ((Sort.insertionSort ltInt d1 l h).toList.map (ic .u16)) 32 1) (Lo:=fun _=>[]) (F:=fun _ _=>(Sort.insertionSort ltInt d1 l h).size=N) Qt2 rfl rfl hs 0 rfl (fun S hS hlt=>Qs7 _ S a N c d1 (by first|assumption|(simp only [QQ5,Go.Sort.size_swp];omega)) hN l h (by omega) (by omega) hS hlt) fun _ w3 hs hz4=>(Qae (Qav ?_)))))))))))
  refine ⟨_,Qbd Tryz.results160,?_⟩
  have hX:Sort.insertionSort ltInt d1 l h=Sort.pdq ltInt d lo hi lim true true:=by rw [← hev,Qoa c2]
  exact ⟨(),rfl,hX ▸ hs.take 1,hX ▸ (by first|assumption|(simp only [QQ5,Go.Sort.size_swp];omega))⟩
 replace c2:=QQ2 c2
 refine Qap (Qag (Qag (Qab (Qaa (Qac (V:=I6 (lim2:Int)) rfl (Qaa (QaW rfl rfl (Qae (Qam (t:=decide ((lim2:Int)=0)) rfl (fun c6=>?_) (fun c6=>?_))))))))))
 ·
  replace c6:=QQ1 c6
  refine Qag (Qab (Qaa (Qac (V:=.slice a N c) rfl (Qaa (Qac (V:=I6 (l:Int)) rfl (Qaa (Qac (V:=I6 (h:Int)) rfl (Qaa (Qbs (vs:=[.slice a N c,I6 (l:Int),I6 (h:Int)]) (V:=fun _:Unit=>.tuple #[]) (R:=row (.slice a N c) (d1.toList.map (ic .u16)) 32 1) (R':=fun _=>row (.slice a N c) ((Sort.heapSort ltInt d1 l h).toList.map (ic .u16)) 32 1) (Lo:=fun _=>[]) (F:=fun _ _=>(Sort.heapSort ltInt d1 l h).size=N) Qr6 rfl rfl hs 0 rfl (fun S hS hlt=>Qqe _ S a N c d1 (by first|assumption|(simp only [QQ5,Go.Sort.size_swp];omega)) hN l h (by omega) (by omega) hS hlt) fun _ w7 hs hz8=>(Qae (Qav ?_)))))))))))
  refine ⟨_,Qbd Tryz.results160,?_⟩
  have hX:Sort.heapSort ltInt d1 l h=Sort.pdq ltInt d lo hi lim true true:=by rw [← hev,Qrx c2 c6]
  exact ⟨(),rfl,hX ▸ hs.take 1,hX ▸ (by first|assumption|(simp only [QQ5,Go.Sort.size_swp];omega))⟩
 replace c6:=QQ2 c6
 refine Qap (Qag (Qag (Qab (Qaa (Qac (V:=.bool wb) rfl (Qaa (Qbx rfl (Qae (Qfs (fun J J' w'=>∃ (Jo:Env) (d2:Array Int) (lim3:Nat),J'=upd (mix ([3]++sq 36 6) Jo J) 3 (I6 (lim3:Int))/\(d2=(Sort.rd ltInt d1 l h lim2 wb wp).d1)/\(lim3=(Sort.rd ltInt d1 l h lim2 wb wp).lim)/\(lim3<=4611686018427387904)/\(d2.size=N)/\Own w S w' [row (.slice a N c) (d2.toList.map (ic .u16)) 32 1]) ?_ ?_)))))))))
 ·
  refine Qam (t:=!wb) rfl (fun c10=>?_) (fun c10=>?_)
  ·
   replace c10:=Qby c10
   refine Qag (Qab (Qaa (Qac (V:=.slice a N c) rfl (Qaa (Qac (V:=I6 (l:Int)) rfl (Qaa (Qac (V:=I6 (h:Int)) rfl (Qaa (Qbs (vs:=[.slice a N c,I6 (l:Int),I6 (h:Int)]) (V:=fun _:Unit=>.tuple #[]) (R:=row (.slice a N c) (d1.toList.map (ic .u16)) 32 1) (R':=fun _=>row (.slice a N c) ((Sort.breakPatterns d1 l h).toList.map (ic .u16)) 32 1) (Lo:=fun _=>[]) (F:=fun _ _=>(Sort.breakPatterns d1 l h).size=N) Qty rfl rfl hs 0 rfl (fun S hS hlt=>Qvt _ S a N c d1 (by first|assumption|(simp only [QQ5,Go.Sort.size_swp];omega)) hN l h (by omega) (by omega) hxor hpow hS hlt) fun _ w11 hs hz12=>(Qae (Qab (Qaa (Qac (V:=I6 (lim2:Int)) rfl (Qaa (Qa3 (a:=(lim2:Int)) (b:=1) (c:=((lim2-1:Nat):Int)) rfl rfl (Qaj (by omega) (by omega)) (Qaa (Qad (V:=I6 ((lim2-1:Nat):Int)) rfl (Qae ?_))))))))))))))))))
   exact ⟨_,Sort.breakPatterns d1 l h,lim2-1,Qak (Qao (ds:=([3]++sq 36 6)) (by repeat (first|exact Agr.refl _ _|refine Agr.upd ?_ rfl|refine Agr.mix ?_ rfl))) rfl,((QpK (l:=l) (h:=h) (lim2:=lim2) (wp:=wp) (d1:=d1) c10).1),((QpK (l:=l) (h:=h) (lim2:=lim2) (wp:=wp) (d1:=d1) c10).2),(by omega),(by assumption),hs.take 1⟩
  replace c10:=Qbr c10
  refine Qap ?_
  exact ⟨_,d1,lim2,Qak (Qao (ds:=([3]++sq 36 6)) (by repeat (first|exact Agr.refl _ _|refine Agr.upd ?_ rfl|refine Agr.mix ?_ rfl))) rfl,((QsL (l:=l) (h:=h) (lim2:=lim2) (wp:=wp) (d1:=d1) c10).1),((QsL (l:=l) (h:=h) (lim2:=lim2) (wp:=wp) (d1:=d1) c10).2),(by omega),(by assumption),hs.take 1⟩
 rintro J' w14 ⟨Jo,d2,lim3,rfl,hd2,hl3,hlim3,hz2,hs⟩
 refine Qag (Qab (Qaa (Qac (V:=.slice a N c) rfl (Qaa (Qac (V:=I6 (l:Int)) rfl (Qaa (Qac (V:=I6 (h:Int)) rfl (Qaa (Qas (vs:=[.slice a N c,I6 (l:Int),I6 (h:Int)]) (V:=.tuple #[I6 (((Sort.choosePivot ltInt d2 l h).1:Nat):Int),I6 (Qcy (Sort.choosePivot ltInt d2 l h).2)]) Qt8 rfl rfl ?hc hs fun w15 hs=>?_)))))))))
 case hc=>exact (Qso _ a N c d2 (by first|assumption|(simp only [QQ5,Go.Sort.size_swp];omega)) hN (hs.rd 0 rfl) l h (by omega) (by omega))
 refine Qaa (Qac (V:=.tuple #[I6 (((Sort.choosePivot ltInt d2 l h).1:Nat):Int),I6 (Qcy (Sort.choosePivot ltInt d2 l h).2)]) rfl (Qaa (Qax (V:=I6 (((Sort.choosePivot ltInt d2 l h).1:Nat):Int)) rfl rfl (Qaa (Qax (V:=I6 (Qcy (Sort.choosePivot ltInt d2 l h).2)) rfl rfl (Qaa (Qad (V:=I6 (((Sort.choosePivot ltInt d2 l h).1:Nat):Int)) rfl (Qaa (Qad (V:=I6 (Qcy (Sort.choosePivot ltInt d2 l h).2)) rfl (Qae (Qag (Qag ?_))))))))))))
 have hcp:=Sort.choosePivot_holds ltInt d2 l h (by omega)
 refine Qab (Qaa (Qac (V:=I6 (Qcy (Sort.choosePivot ltInt d2 l h).2)) rfl (Qaa (QaW rfl rfl (Qae (Qfs (fun J J' w'=>∃ (Jo:Env) (d3:Array Int) (pvx:Nat),J'=upd (upd (mix ([11,12]++sq 51 10) Jo J) 11 (I6 (pvx:Int))) 12 (I6 (Qcy (Sort.rd ltInt d1 l h lim2 wb wp).hint))/\(d3=(Sort.rd ltInt d1 l h lim2 wb wp).d2)/\(pvx=(Sort.rd ltInt d1 l h lim2 wb wp).pivot)/\(l<=pvx/\pvx<h)/\(d3.size=N)/\Own w S w' [row (.slice a N c) (d3.toList.map (ic .u16)) 32 1]) ?_ ?_))))))
 ·
  refine Qam (t:=decide (Qcy (Sort.choosePivot ltInt d2 l h).2=2)) rfl (fun c16=>?_) (fun c16=>?_)
  ·
   replace c16:=QQ1 c16
   refine Qag (Qab (Qaa (Qac (V:=.slice a N c) rfl (Qaa (Qac (V:=I6 (l:Int)) rfl (Qaa (Qac (V:=I6 (h:Int)) rfl (Qaa (Qbs (vs:=[.slice a N c,I6 (l:Int),I6 (h:Int)]) (V:=fun _:Unit=>.tuple #[]) (R:=row (.slice a N c) (d2.toList.map (ic .u16)) 32 1) (R':=fun _=>row (.slice a N c) ((Sort.reverseRange d2 l h).toList.map (ic .u16)) 32 1) (Lo:=fun _=>[]) (F:=fun _ _=>(Sort.reverseRange d2 l h).size=N) Qt7 rfl rfl hs 0 rfl (fun S hS hlt=>QsY _ S a N c d2 (by first|assumption|(simp only [QQ5,Go.Sort.size_swp];omega)) hN l h (by omega) (by omega) hS hlt) fun _ w17 hs hz18=>(Qae (Qag (Qab (Qaa (Qac (V:=I6 (h:Int)) rfl (Qaa (Qa3 (a:=(h:Int)) (b:=1) (c:=((h-1:Nat):Int)) rfl rfl (Qaj (by omega) (by omega)) (Qaa (Qac (V:=I6 (((Sort.choosePivot ltInt d2 l h).1:Nat):Int)) rfl (Qaa (Qac (V:=I6 (l:Int)) rfl (Qaa (Qa3 (a:=(((Sort.choosePivot ltInt d2 l h).1:Nat):Int)) (b:=(l:Int)) (c:=((((Sort.choosePivot ltInt d2 l h).1)-l:Nat):Int)) rfl rfl (Qaj (by omega) (by omega)) (Qaa (Qa3 (a:=((h-1:Nat):Int)) (b:=((((Sort.choosePivot ltInt d2 l h).1)-l:Nat):Int)) (c:=(((h-1)-(((Sort.choosePivot ltInt d2 l h).1)-l):Nat):Int)) rfl rfl (Qaj (by omega) (by omega)) (Qaa (Qad (V:=I6 (((h-1)-(((Sort.choosePivot ltInt d2 l h).1)-l):Nat):Int)) rfl (Qae (Qab (Qaa (Qad (V:=I6 1) rfl (Qae ?_)))))))))))))))))))))))))))))))
   exact ⟨_,Sort.reverseRange d2 l h,(h-1)-(((Sort.choosePivot ltInt d2 l h).1)-l),Qak (Qak (Qao (ds:=([11,12]++sq 51 10)) (by repeat (first|exact Agr.refl _ _|refine Agr.upd ?_ rfl|refine Agr.mix ?_ rfl))) rfl) (congrArg (Value.int .i64) (by first|exact (QjJ hd2 (by assumption)).2.2|exact (QjO hd2 (by assumption)).2.2)),((QjJ hd2 c16).1),((QjJ hd2 c16).2.1),(by omega),(by assumption),hs.take 1⟩
  replace c16:=QQ2 c16
  refine Qap ?_
  exact ⟨_,d2,(Sort.choosePivot ltInt d2 l h).1,Qak (Qak (Qao (ds:=([11,12]++sq 51 10)) (by repeat (first|exact Agr.refl _ _|refine Agr.upd ?_ rfl|refine Agr.mix ?_ rfl))) rfl) (congrArg (Value.int .i64) (by first|exact (QjJ hd2 (by assumption)).2.2|exact (QjO hd2 (by assumption)).2.2)),((QjO hd2 c16).1),((QjO hd2 c16).2.1),(by omega),(by assumption),hs.take 1⟩
 rintro J' w20 ⟨Jo,d3,pvx,rfl,hd3,hpv,hpr,hz3,hs⟩
 refine Qag (Qag (Qbq [some 61,some 62,some 63,some 64,some 65,some 66,some 67,some 68] [] [0,1,3,7,15,31,63,127] [pv (.bool wb),pv (.bool wb),pg (wb == true) (.bool wp),pv (.bool (wb&&wp)),pv (.bool (wb&&wp)),pg ((wb&&wp) == true) (I6 (Qcy (Sort.rd ltInt d1 l h lim2 wb wp).hint)),pg ((wb&&wp) == true) (.bool (decide (Qcy (Sort.rd ltInt d1 l h lim2 wb wp).hint=1))),pv (.bool ((wb&&wp)&&(decide (Qcy (Sort.rd ltInt d1 l h lim2 wb wp).hint=1))))] (fun _ _=>_) [7] (by kernel_rfl) hs ⟨?_,?_,?_,?_,?_,?_,?_,?_,trivial⟩ ?_))
 ·exact oa [] fun D J w hs=>Qac (V:=.bool wb) rfl (Zz hs)
 ·exact oa [0] fun D J w hs=>Qac (V:=.bool wb) rfl (Zz hs)
 ·exact og [1] fun D J w hG hs=>Qac (V:=.bool wp) rfl (Zz hs)
 ·exact oa [1,2] fun D J w hs=>Qbg (h':=wp) rfl rfl rfl (Zz hs)
 ·exact oa [3] fun D J w hs=>Qac (V:=.bool (wb&&wp)) rfl (Zz hs)
 ·exact og [4] fun D J w hG hs=>Qac (V:=.int .i64 (Qcy (Sort.rd ltInt d1 l h lim2 wb wp).hint)) rfl (Zz hs)
 ·exact oy [4,5] [5] fun D J w hG hs=>QaW rfl rfl (Zz hs)
 ·exact oa [4,6] fun D J w hs=>Qbg (h':=decide (Qcy (Sort.rd ltInt d1 l h lim2 wb wp).hint=1)) rfl rfl rfl (Zz hs)
 rintro J1 w21 J2 hJ hs
 replace hJ:J2=upd (mix (sq 61 8) J1 _) 68 (.bool ((wb&&wp)&&(decide (Qcy (Sort.rd ltInt d1 l h lim2 wb wp).hint=1)))):=hJ
 subst hJ
 refine Qfs (fun J J' w'=>∃ (Jo:Env) (d4:Array Int),J'=mix [69,70,71,72] Jo J/\(d4=(Sort.rd ltInt d1 l h lim2 wb wp).pi.1)/\((Sort.rd ltInt d1 l h lim2 wb wp).pi.2=false)/\(d4.size=N)/\Own w S w' [row (.slice a N c) (d4.toList.map (ic .u16)) 32 1]) ?_ ?_
 ·
  refine Qam (t:=(wb&&wp)&&(decide (Qcy (Sort.rd ltInt d1 l h lim2 wb wp).hint=1))) rfl (fun c22=>?_) (fun c22=>?_)
  ·
   have c22r:=Qcs c22
   replace c22:=QbY c22
   have c22rr:=Qcs c22
   replace c22:=QbY c22
   replace c22r:=QQ1 c22r
   refine Qag (Qab (Qaa (Qac (V:=.slice a N c) rfl (Qaa (Qac (V:=I6 (l:Int)) rfl (Qaa (Qac (V:=I6 (h:Int)) rfl (Qaa (Qbs (vs:=[.slice a N c,I6 (l:Int),I6 (h:Int)]) (V:=fun _:Unit=>.bool ((Sort.partialInsertionSort ltInt d3 l h).2)) (R:=row (.slice a N c) (d3.toList.map (ic .u16)) 32 1) (R':=fun _=>row (.slice a N c) (((Sort.partialInsertionSort ltInt d3 l h).1).toList.map (ic .u16)) 32 1) (Lo:=fun _=>[]) (F:=fun _ _=>((Sort.partialInsertionSort ltInt d3 l h).1).size=N) Qsh rfl rfl hs 0 rfl (fun S hS hlt=>Qqd _ S a N c d3 (by first|assumption|(simp only [QQ5,Go.Sort.size_swp];omega)) hN l h (by omega) (by omega) hS hlt) fun _ w23 hs hz24=>(Qae (Qam (t:=(Sort.partialInsertionSort ltInt d3 l h).2) rfl (fun c26=>?_) (fun c26=>?_))))))))))))
   ·
    refine Qav ?_
    refine ⟨_,Qbd Tryz.results160,?_⟩
    have hpi:=QsD hd3 c22 c22rr c22r
    have hX:(Sort.partialInsertionSort ltInt d3 l h).1=Sort.pdq ltInt d lo hi lim true true:=by rw [← hev,QrL c2 c6 (by rw [hpi];exact c26),hpi]
    exact ⟨(),rfl,hX ▸ hs.take 1,hX ▸ (by first|assumption|(simp only [QQ5,Go.Sort.size_swp];omega))⟩
   refine Qap ?_
   have hpi:=QsD hd3 c22 c22rr c22r
   exact ⟨_,(Sort.partialInsertionSort ltInt d3 l h).1,Qao (ds:=[69,70,71,72]) (by repeat (first|exact Agr.refl _ _|refine Agr.upd ?_ rfl|refine Agr.mix ?_ rfl)),(by rw [hpi]),(by rw [hpi];exact c26),(by assumption),hs.take 1⟩
  refine Qap ?_
  have hpi:=Qrk hd3 c22
  exact ⟨_,d3,Qao (ds:=[69,70,71,72]) (by repeat (first|exact Agr.refl _ _|refine Agr.upd ?_ rfl|refine Agr.mix ?_ rfl)),(by rw [hpi]),(by rw [hpi]),(by assumption),hs.take 1⟩
 rintro J' w27 ⟨Jo,d4,rfl,hd4,hp4,hz4,hs⟩
 refine Qag (Qag (QaH HM [some 73,some 74,some 75,some 76,some 77,some 78,some 79,some 80,some 81,some 82,some 83,some 84,some 85,some 86,some 87] [] [0,1,3,7,7,23,63,127,7,7,775,1799,4095,8191,16383] [pv (I6 (l:Int)),pv (.bool (decide (0<(l:Int)))),pv (.bool (decide (0<(l:Int)))),pg ((decide (0<(l:Int))) == true) (.slice a N c),pg ((decide (0<(l:Int))) == true) (I6 (l:Int)),pg ((decide (0<(l:Int))) == true) (I6 ((l-1:Nat):Int)),pg ((decide (0<(l:Int))) == true) (.pointer (some ⟨bkS (.slice a N c),ofS (.slice a N c)+((l-1:Nat):Int).toNat*1,none⟩)),pg ((decide (0<(l:Int))) == true) (I7 (d4[l-1]!)),pg ((decide (0<(l:Int))) == true) (.slice a N c),pg ((decide (0<(l:Int))) == true) (I6 (pvx:Int)),pg ((decide (0<(l:Int))) == true) (.pointer (some ⟨bkS (.slice a N c),ofS (.slice a N c)+(pvx:Int).toNat*1,none⟩)),pg ((decide (0<(l:Int))) == true) (I7 (d4[pvx]!)),pg ((decide (0<(l:Int))) == true) (.bool (decide (d4[l-1]!<d4[pvx]!))),pg ((decide (0<(l:Int))) == true) (.bool (!decide (d4[l-1]!<d4[pvx]!))),pv (.bool ((decide (0<(l:Int)))&&(!decide (d4[l-1]!<d4[pvx]!))))] (fun _ _=>_) [14] (by kernel_rfl) hs ⟨?_,?_,?_,?_,?_,?_,?_,?_,?_,?_,?_,?_,?_,?_,?_,trivial⟩ ?_))
 ·exact oa [] fun D J w hs=>Qac (V:=.int .i64 (l:Int)) rfl (Zz hs)
 ·exact oa [0] fun D J w hs=>QbU rfl rfl (Zz hs)
 ·exact oa [1] fun D J w hs=>Qac (V:=.bool (decide (0<(l:Int)))) rfl (Zz hs)
 ·refine og [2] fun D J w hG hs=>?_
  have hgd:=QQ1 (eq_of_beq hG)
  exact Qac (V:=.slice a N c) rfl (Zz hs)
 ·refine og [2] fun D J w hG hs=>?_
  have hgd:=QQ1 (eq_of_beq hG)
  exact Qac (V:=.int .i64 (l:Int)) rfl (Zz hs)
 ·refine oy [2,4] [4] fun D J w hG hs=>?_
  have hgd:=QQ1 (eq_of_beq hG)
  exact Qa3 (a:=(l:Int)) (b:=1) (c:=((l-1:Nat):Int)) rfl rfl (Qaj (by omega) (by omega)) (Zz hs)
 ·refine oy [2,3,5] [3,5] fun D J w hG hs=>?_
  have hgd:=QQ1 (eq_of_beq hG)
  exact Qaw QaK Qar.1 (hs.rd 0 rfl) rfl rfl (by omega) (by simp only [QQ6,QQ9,QQ5,Go.Sort.size_swp];omega) (Zz hs)
 ·refine oy [2,6] [6] fun D J w hG hs=>?_
  have hgd:=QQ1 (eq_of_beq hG)
  exact QaU (j:=0) (V:=.int .u16 (d4[l-1]!)) (l-1) Qar (hs.rd 0 rfl) (Qbk (by omega)) rfl rfl (by omega) (Zz hs)
 ·refine og [2] fun D J w hG hs=>?_
  have hgd:=QQ1 (eq_of_beq hG)
  exact Qac (V:=.slice a N c) rfl (Zz hs)
 ·refine og [2] fun D J w hG hs=>?_
  have hgd:=QQ1 (eq_of_beq hG)
  exact Qac (V:=.int .i64 (pvx:Int)) rfl (Zz hs)
 ·refine oy [2,8,9] [8,9] fun D J w hG hs=>?_
  have hgd:=QQ1 (eq_of_beq hG)
  exact Qaw QaK Qar.1 (hs.rd 0 rfl) rfl rfl (by omega) (by simp only [QQ6,QQ9,QQ5,Go.Sort.size_swp];omega) (Zz hs)
 ·refine oy [2,10] [10] fun D J w hG hs=>?_
  have hgd:=QQ1 (eq_of_beq hG)
  exact QaU (j:=0) (V:=.int .u16 (d4[pvx]!)) pvx Qar (hs.rd 0 rfl) (Qbk (by omega)) rfl rfl (by omega) (Zz hs)
 ·refine oy [2,7,11] [7,11] fun D J w hG hs=>?_
  have hgd:=QQ1 (eq_of_beq hG)
  exact Qas (vs:=[.int .u16 (d4[l-1]!),.int .u16 (d4[pvx]!)]) (V:=.bool (decide (d4[l-1]!<d4[pvx]!))) Qc0 rfl rfl (Qcl _ (d4[l-1]!) (d4[pvx]!)) hs fun _ hs=>Zz hs
 ·refine oy [2,12] [12] fun D J w hG hs=>?_
  have hgd:=QQ1 (eq_of_beq hG)
  exact Qbx rfl (Zz hs)
 ·exact oa [2,13] fun D J w hs=>Qbg (h':=!decide (d4[l-1]!<d4[pvx]!)) rfl rfl rfl (Zz hs)
 rintro J1 w29 J2 hJ hs
 replace hJ:J2=upd (mix (sq 73 15) J1 _) 87 (.bool ((decide (0<(l:Int)))&&(!decide (d4[l-1]!<d4[pvx]!)))):=hJ
 subst hJ
 refine Qam (t:=(decide (0<(l:Int)))&&(!decide (d4[l-1]!<d4[pvx]!))) rfl (fun c30=>?_) (fun c30=>?_)
 ·
  have c30r:=Qcs c30
  replace c30:=QbY c30
  replace c30:=QQ1 c30
  replace c30r:=Qby c30r
  replace c30r:=QQ2 c30r
  refine Qag ?_
  have hrg:=QnI (d:=d4) (lo:=l) (hi:=h) (pvx:=pvx) (by omega) (by omega) (by omega)
  refine Qab (Qaa (Qac (V:=.slice a N c) rfl (Qaa (Qac (V:=I6 (l:Int)) rfl (Qaa (Qac (V:=I6 (h:Int)) rfl (Qaa (Qac (V:=I6 (pvx:Int)) rfl (Qaa (Qbs (vs:=[.slice a N c,I6 (l:Int),I6 (h:Int),I6 (pvx:Int)]) (V:=fun _:Unit=>I6 (((Sort.partitionEqual ltInt d4 l h pvx).1:Nat):Int)) (R:=row (.slice a N c) (d4.toList.map (ic .u16)) 32 1) (R':=fun _=>row (.slice a N c) (((Sort.partitionEqual ltInt d4 l h pvx).2).toList.map (ic .u16)) 32 1) (Lo:=fun _=>[]) (F:=fun _ _=>((Sort.partitionEqual ltInt d4 l h pvx).2).size=N) QsN rfl rfl hs 0 rfl (fun S hS hlt=>Qvm _ S a N c d4 (by first|assumption|(simp only [QQ5,Go.Sort.size_swp];omega)) hN l h pvx (by omega) (by omega) (by omega) hS hlt) fun _ w31 hs hz32=>(Qaa (Qad (V:=I6 (((Sort.partitionEqual ltInt d4 l h pvx).1:Nat):Int)) rfl (Qae (Qag (Qab (Qaa (Qac (V:=I6 (((Sort.partitionEqual ltInt d4 l h pvx).1:Nat):Int)) rfl (Qaa (Qad (V:=I6 (((Sort.partitionEqual ltInt d4 l h pvx).1:Nat):Int)) rfl (Qae (QaJ ?_)))))))))))))))))))))
  have hfin:=Qvd c2 c6 hd4 hp4 hpv hl3 (by rw [QQ3 c30,QQ4 c30r];rfl) hrg
  refine ⟨_,?_,_,(Sort.partitionEqual ltInt d4 l h pvx).1,h,lim3,wb,wp,(Sort.partitionEqual ltInt d4 l h pvx).2,Qak (Qak (Qak (Qak (Qak (Qao (ds:=([1,2,3]++sq 8 126)) (by repeat (first|exact Agr.refl _ _|refine Agr.upd ?_ rfl|refine Agr.mix ?_ rfl))) rfl) rfl) rfl) rfl) rfl,(by omega),(by omega),(by omega),(by omega),(by assumption),(by rw [← hev,hfin]),rfl,hs.take 1⟩
  omega
 refine Qap (Qag ?_)
 have hrg:=Qom (d:=d4) (lo:=l) (hi:=h) (pvx:=pvx) (by omega) (by omega) (by omega)
 refine Qab (Qaa (Qac (V:=.slice a N c) rfl (Qaa (Qac (V:=I6 (l:Int)) rfl (Qaa (Qac (V:=I6 (h:Int)) rfl (Qaa (Qac (V:=I6 (pvx:Int)) rfl (Qaa (Qbs (vs:=[.slice a N c,I6 (l:Int),I6 (h:Int),I6 (pvx:Int)]) (V:=fun _:Unit=>.tuple #[I6 (((partition ltInt d4 l h pvx).1:Nat):Int),.bool ((partition ltInt d4 l h pvx).2.1)]) (R:=row (.slice a N c) (d4.toList.map (ic .u16)) 32 1) (R':=fun _=>row (.slice a N c) (((partition ltInt d4 l h pvx).2.2).toList.map (ic .u16)) 32 1) (Lo:=fun _=>[]) (F:=fun _ _=>((partition ltInt d4 l h pvx).2.2).size=N) Qt5 rfl rfl hs 0 rfl (fun S hS hlt=>QuD _ S a N c d4 (by first|assumption|(simp only [QQ5,Go.Sort.size_swp];omega)) hN l h pvx (by omega) (by omega) (by omega) hS hlt) fun _ w34 hs hz35=>(Qaa (Qac (V:=.tuple #[I6 (((partition ltInt d4 l h pvx).1:Nat):Int),.bool ((partition ltInt d4 l h pvx).2.1)]) rfl (Qaa (Qax (V:=I6 (((partition ltInt d4 l h pvx).1:Nat):Int)) rfl rfl (Qaa (Qax (V:=.bool ((partition ltInt d4 l h pvx).2.1)) rfl rfl (Qaa (Qad (V:=I6 (((partition ltInt d4 l h pvx).1:Nat):Int)) rfl (Qaa (Qad (V:=.bool ((partition ltInt d4 l h pvx).2.1)) rfl (Qae (Qag (Qab (Qaa (Qac (V:=.bool ((partition ltInt d4 l h pvx).2.1)) rfl (Qaa (Qad (V:=.bool ((partition ltInt d4 l h pvx).2.1)) rfl (Qae (Qag (Qab (Qaa (Qac (V:=I6 (((partition ltInt d4 l h pvx).1:Nat):Int)) rfl (Qaa (Qac (V:=I6 (l:Int)) rfl (Qaa (Qa3 (a:=(((partition ltInt d4 l h pvx).1:Nat):Int)) (b:=(l:Int)) (c:=((((partition ltInt d4 l h pvx).1)-l:Nat):Int)) rfl rfl (Qaj (by omega) (by omega)) (Qaa (Qac (V:=I6 (h:Int)) rfl (Qaa (Qac (V:=I6 (((partition ltInt d4 l h pvx).1:Nat):Int)) rfl (Qaa (Qa3 (a:=(h:Int)) (b:=(((partition ltInt d4 l h pvx).1:Nat):Int)) (c:=((h-((partition ltInt d4 l h pvx).1):Nat):Int)) rfl rfl (Qaj (by omega) (by omega)) (Qaa (Qad (V:=I6 ((((partition ltInt d4 l h pvx).1)-l:Nat):Int)) rfl (Qaa (Qad (V:=I6 ((h-((partition ltInt d4 l h pvx).1):Nat):Int)) rfl (Qae (Qag (Qab (Qaa (Qac (V:=I6 ((h-l:Nat):Int)) rfl (Qaa (QiK (a:=((h-l:Nat):Int)) (b:=8) (c:=(((h-l)/8:Nat):Int)) rfl rfl (by decide) (Qaj rfl (by omega)) (Qaa (Qad (V:=I6 (((h-l)/8:Nat):Int)) rfl (Qae (Qag (Qab (Qaa (Qac (V:=I6 ((((partition ltInt d4 l h pvx).1)-l:Nat):Int)) rfl (Qaa (Qac (V:=I6 ((h-((partition ltInt d4 l h pvx).1):Nat):Int)) rfl (Qaa (Qa2 rfl rfl (Qae (Qam (t:=decide (((((partition ltInt d4 l h pvx).1)-l:Nat):Int)<((h-((partition ltInt d4 l h pvx).1):Nat):Int))) rfl (fun c37=>?_) (fun c37=>?_)))))))))))))))))))))))))))))))))))))))))))))))))))))))))))))))))))
 ·
  replace c37:=QQ1 c37
  refine Qag (Qab (Qaa (Qac (V:=I6 ((((partition ltInt d4 l h pvx).1)-l:Nat):Int)) rfl (Qaa (Qac (V:=I6 (((h-l)/8:Nat):Int)) rfl (Qaa (QaX (V:=.bool (decide ((((h-l)/8:Nat):Int)<=((((partition ltInt d4 l h pvx).1)-l:Nat):Int)))) (V':=.bool (decide ((partition ltInt d4 l h pvx).1-l ≥ (h-l)/8))) (QcR rfl rfl ⟨rfl,rfl⟩) (congrArg Value.bool (decide_eq_decide.2 (by omega))) (Qaa (Qad (V:=.bool (decide ((partition ltInt d4 l h pvx).1-l ≥ (h-l)/8))) rfl (Qae (Qag (Qab (Qaa (Qac (V:=.slice a N c) rfl (Qaa (Qac (V:=I6 (l:Int)) rfl (Qaa (Qac (V:=I6 (((partition ltInt d4 l h pvx).1:Nat):Int)) rfl (Qaa (Qac (V:=I6 (lim3:Int)) rfl (Qaa (Qbs (vs:=[.slice a N c,I6 (l:Int),I6 (((partition ltInt d4 l h pvx).1:Nat):Int),I6 (lim3:Int)]) (V:=fun _:Unit=>.tuple #[]) (R:=row (.slice a N c) (((partition ltInt d4 l h pvx).2.2).toList.map (ic .u16)) 32 1) (R':=fun _=>row (.slice a N c) ((Sort.pdq ltInt ((partition ltInt d4 l h pvx).2.2) l ((partition ltInt d4 l h pvx).1) lim3 true true).toList.map (ic .u16)) 32 1) (Lo:=fun _=>[]) (F:=fun _ _=>(Sort.pdq ltInt ((partition ltInt d4 l h pvx).2.2) l ((partition ltInt d4 l h pvx).1) lim3 true true).size=N) Qmz rfl rfl hs 0 rfl (fun S hS hlt=>ih _ S a N c ((partition ltInt d4 l h pvx).2.2) (by first|assumption|(simp only [QQ5,Go.Sort.size_swp];omega)) hN l ((partition ltInt d4 l h pvx).1) lim3 (by omega) (by omega) (by omega) (by omega) hS hlt) fun _ w38 hs hz39=>(Qae (Qab (Qaa (Qac (V:=I6 (((partition ltInt d4 l h pvx).1:Nat):Int)) rfl (Qaa (QaD (a:=(((partition ltInt d4 l h pvx).1:Nat):Int)) (b:=1) (c:=((((partition ltInt d4 l h pvx).1)+1:Nat):Int)) rfl rfl (Qaj (by omega) (by omega)) (Qaa (Qad (V:=I6 ((((partition ltInt d4 l h pvx).1)+1:Nat):Int)) rfl (Qae ?_)))))))))))))))))))))))))))))))
  have hfin:=QqY c2 c6 hd4 hp4 hpv hl3 c30 hrg c37
  refine ⟨_,?_,_,((partition ltInt d4 l h pvx).1)+1,h,lim3,decide ((partition ltInt d4 l h pvx).1-l ≥ (h-l)/8),(partition ltInt d4 l h pvx).2.1,Sort.pdq ltInt ((partition ltInt d4 l h pvx).2.2) l ((partition ltInt d4 l h pvx).1) lim3 true true,Qak (Qak (Qak (Qak (Qak (Qao (ds:=([1,2,3]++sq 8 126)) (by repeat (first|exact Agr.refl _ _|refine Agr.upd ?_ rfl|refine Agr.mix ?_ rfl))) rfl) rfl) rfl) rfl) rfl,(by omega),(by omega),(by omega),(by omega),(by assumption),(by rw [← hev,hfin]),rfl,hs.take 1⟩
  omega
 replace c37:=QQ2 c37
 refine Qag (Qab (Qaa (Qac (V:=I6 ((h-((partition ltInt d4 l h pvx).1):Nat):Int)) rfl (Qaa (Qac (V:=I6 (((h-l)/8:Nat):Int)) rfl (Qaa (QaX (V:=.bool (decide ((((h-l)/8:Nat):Int)<=((h-((partition ltInt d4 l h pvx).1):Nat):Int)))) (V':=.bool (decide (h-(partition ltInt d4 l h pvx).1 ≥ (h-l)/8))) (QcR rfl rfl ⟨rfl,rfl⟩) (congrArg Value.bool (decide_eq_decide.2 (by omega))) (Qaa (Qad (V:=.bool (decide (h-(partition ltInt d4 l h pvx).1 ≥ (h-l)/8))) rfl (Qae (Qag (Qab (Qaa (Qac (V:=.slice a N c) rfl (Qaa (Qac (V:=I6 (((partition ltInt d4 l h pvx).1:Nat):Int)) rfl (Qaa (QaD (a:=(((partition ltInt d4 l h pvx).1:Nat):Int)) (b:=1) (c:=((((partition ltInt d4 l h pvx).1)+1:Nat):Int)) rfl rfl (Qaj (by omega) (by omega)) (Qaa (Qac (V:=I6 (h:Int)) rfl (Qaa (Qac (V:=I6 (lim3:Int)) rfl (Qaa (Qbs (vs:=[.slice a N c,I6 ((((partition ltInt d4 l h pvx).1)+1:Nat):Int),I6 (h:Int),I6 (lim3:Int)]) (V:=fun _:Unit=>.tuple #[]) (R:=row (.slice a N c) (((partition ltInt d4 l h pvx).2.2).toList.map (ic .u16)) 32 1) (R':=fun _=>row (.slice a N c) ((Sort.pdq ltInt ((partition ltInt d4 l h pvx).2.2) (((partition ltInt d4 l h pvx).1)+1) h lim3 true true).toList.map (ic .u16)) 32 1) (Lo:=fun _=>[]) (F:=fun _ _=>(Sort.pdq ltInt ((partition ltInt d4 l h pvx).2.2) (((partition ltInt d4 l h pvx).1)+1) h lim3 true true).size=N) Qmz rfl rfl hs 0 rfl (fun S hS hlt=>ih _ S a N c ((partition ltInt d4 l h pvx).2.2) (by first|assumption|(simp only [QQ5,Go.Sort.size_swp];omega)) hN (((partition ltInt d4 l h pvx).1)+1) h lim3 (by omega) (by omega) (by omega) (by omega) hS hlt) fun _ w41 hs hz42=>(Qae (Qab (Qaa (Qac (V:=I6 (((partition ltInt d4 l h pvx).1:Nat):Int)) rfl (Qaa (Qad (V:=I6 (((partition ltInt d4 l h pvx).1:Nat):Int)) rfl (Qae ?_)))))))))))))))))))))))))))))))
 have hfin:=QoM c2 c6 hd4 hp4 hpv hl3 c30 hrg c37
 refine ⟨_,?_,_,l,(partition ltInt d4 l h pvx).1,lim3,decide (h-(partition ltInt d4 l h pvx).1 ≥ (h-l)/8),(partition ltInt d4 l h pvx).2.1,Sort.pdq ltInt ((partition ltInt d4 l h pvx).2.2) (((partition ltInt d4 l h pvx).1)+1) h lim3 true true,Qak (Qak (Qak (Qak (Qak (Qao (ds:=([1,2,3]++sq 8 126)) (by repeat (first|exact Agr.refl _ _|refine Agr.upd ?_ rfl|refine Agr.mix ?_ rfl))) rfl) rfl) rfl) rfl) rfl,(by omega),(by omega),(by omega),(by omega),(by assumption),(by rw [← hev,hfin]),rfl,hs.take 1⟩
 omega
end Tt
end Go.Proofs
namespace Go.Proofs
open Go Go.Vx Go.RowKit
open Go.Sort (ltInt medianAdjacent order2 partition)
namespace Tt
theorem Ql7 (hxor:QrC Tryz.prog 163 211) (hpow:Qqw Tryz.prog 162):∀ n,QtU n
 | 0=>fun w S a N c d hsz hN lo hi lim h1 h2 hlim hlen=>by omega
 | n+1=>fun w S a N c d hsz hN lo hi lim h1 h2 hlim hlen hR hlt=>QnY n (Ql7 hxor hpow n) w S a N c d hsz hN lo hi lim h1 h2 hxor hpow hlim hlen hR hlt
theorem Qr9 (w:World) (S:Nat->Prop) (a:Option Addr) (N c:Nat) (d:Array Int) (hsz:d.size=N) (hN:N<=2305843009213693951) (hxor:QrC Tryz.prog 163 211) (hpow:Qqw Tryz.prog 162) (lo hi lim:Nat) (h1:lo<=hi) (h2:hi<=N) (hlim:lim<=4611686018427387904) (hR:(row (.slice a N c) (d.toList.map (ic .u16)) 32 1).holds w S) (hlt:∀ x,S x->x<w.heap.size):Calls Tryz.prog 160 #[.slice a N c,.int .i64 (lo:Int),.int .i64 (hi:Int),.int .i64 (lim:Int)] w (fun e w'=>∃ x:Unit,e = .returned (.tuple #[])/\Own w S w' [row (.slice a N c) ((Sort.pdq ltInt d lo hi lim true true).toList.map (ic .u16)) 32 1]/\(Sort.pdq ltInt d lo hi lim true true).size=N) :=
 Ql7 hxor hpow (hi-lo+1) w S a N c d hsz hN lo hi lim h1 h2 hlim (Nat.lt_succ_self _) hR hlt
theorem QlV (w:World) (S:Nat->Prop) (a:Option Addr) (N c:Nat) (d:Array Int) (hsz:d.size=N) (hN:N<=2305843009213693951) (hxor:QrC Tryz.prog 163 211) (hpow:Qqw Tryz.prog 162) (hblen:Qu2 Tryz.prog 92) (hR:(row (.slice a N c) (d.toList.map (ic .u16)) 32 1).holds w S) (hlt:∀ x,S x->x<w.heap.size):Calls Tryz.prog 134 #[.slice a N c] w (fun e w'=>∃ x:Unit,e = .returned (.tuple #[])/\Own w S w' [row (.slice a N c) ((Sort.pdq ltInt d 0 N (Sort.bitsLen N) true true).toList.map (ic .u16)) 32 1]/\(Sort.pdq ltInt d 0 N (Sort.bitsLen N) true true).size=N):=by
 refine Qai (n:=11) Tryz.func134 rfl Tryz.ntmps134 rfl ?_
 have hs:=Own.lent hR hlt
 have hbl:Sort.bitsLen N<=4611686018427387904:=Nat.le_trans ((Sort.bitsLen_le_iff N 62).2 (by omega)) (by decide)
 refine Qag (Qab (Qaa (Qac (V:=.slice a N c) rfl (Qaa (Qa0 (n:=N) QaK (hs.rd 0 rfl) (by rw [QQ6,QQ9];assumption) rfl (Qaa (Qad (V:=I6 (N:Int)) rfl (Qae (Qab (Qaa (Qac (V:=.slice a N c) rfl (Qaa (Qac (V:=I6 (N:Int)) rfl (Qaa (Qac (V:=I6 (N:Int)) rfl (Qaa (Qcg QhH Qc8 rfl (QdF (by omega) (by omega)) (Qaa (Qas (vs:=[.int .u64 (N:Int)]) (V:=I6 ((Sort.bitsLen N:Nat):Int)) Qur rfl rfl ?hc hs fun w1 hs=>?_)))))))))))))))))))
 case hc=>exact (hblen _ N (by omega))
 refine Qaa (Qbs (vs:=[.slice a N c,I6 0,I6 (N:Int),I6 ((Sort.bitsLen N:Nat):Int)]) (V:=fun _:Unit=>.tuple #[]) (R:=row (.slice a N c) (d.toList.map (ic .u16)) 32 1) (R':=fun _=>row (.slice a N c) ((Sort.pdq ltInt d 0 N (Sort.bitsLen N) true true).toList.map (ic .u16)) 32 1) (Lo:=fun _=>[]) (F:=fun _ _=>(Sort.pdq ltInt d 0 N (Sort.bitsLen N) true true).size=N) Qmz rfl rfl hs 0 rfl (fun S hS hlt=>Qr9 _ S a N c d (by first|assumption|(simp only [QQ5,Go.Sort.size_swp];omega)) hN hxor hpow 0 N (Sort.bitsLen N) (Nat.zero_le _) (Nat.le_refl _) hbl hS hlt) fun _ w2 hs hz3=>(Qae ?_))
 refine ⟨_,Qbd Tryz.results134,?_⟩
 have hX:Sort.pdq ltInt d 0 N (Sort.bitsLen N) true true=Sort.pdq ltInt d 0 N (Sort.bitsLen N) true true:=rfl
 exact ⟨(),rfl,hX ▸ hs.take 1,hX ▸ (by first|assumption|(simp only [QQ5,Go.Sort.size_swp];omega))⟩
theorem sort_ok (hxor:QrC Tryz.prog 163 211) (hpow:Qqw Tryz.prog 162) (hblen:Qu2 Tryz.prog 92):Qgz Tryz.prog 134 .u16 32:=by
 intro w S a c l hR hlt hlen
 have hd:l.toArray.size=l.length:=by simp
 have h:=QlV w S a l.length c l.toArray hd hlen hxor hpow hblen (by simpa using hR) hlt
 refine h.mono fun e w' ⟨_,he,ho,_⟩=>⟨he,?_⟩
 have e1:(Sort.pdq ltInt l.toArray 0 l.length (Sort.bitsLen l.length) true true).toList=Qa6 l:=by
  have h2:=Sort.sortInt l
  unfold Sort.sort at h2
  rw [hd] at h2
  exact h2
 rw [e1] at ho
 exact ho
end Tt
end Go.Proofs
namespace Go.Proofs.YtbjbjboehjdcaaaGreat
open Go.Vx Go.Sort Go.Proofs
theorem QvH:Qu2 Tryz.prog 92:=fun w n hn=>by
 have h:=Any.bits_Len (SlLaysF0.n15.bits (P:=Tryz.prog) (ρ:=Tryz.sortE_ren) { Tryz.sortE with }) (n:Int) w (by omega) (by omega)
 rw [Int.toNat_natCast,bitLen_eq _ (by omega)] at h
 exact h.mono fun e w' ⟨he,hw⟩=>by subst hw;exact ⟨he,Own.start _⟩
theorem QvE:QrC Tryz.prog 163 211:=fun w S rb X hX hR hlt=>QtQ (P:=Tryz.prog) (J:=Tryz.sortE_ren) { Tryz.sortE with } 211 w S rb X hX hR hlt
theorem QvL:Qqw Tryz.prog 162:=fun w n hn=>QtI (P:=Tryz.prog) (J:=Tryz.sortE_ren) { Tryz.sortE with } w n hn
theorem Qt3:Qgz Tryz.prog 134 .u16 32:=Tt.sort_ok QvE QvL QvH
end Go.Proofs.YtbjbjboehjdcaaaGreat
